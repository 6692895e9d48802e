/- Layer 15's statements: a memory of cells; a program runs to its end; entries compared. -/
import Derived.Test.YtbmgmjfpoepgpaaFRefH
import Derived.Test.YtbmgmjfpoepgpaaFPlanC
import Derived.Test.YtbmgmjfpoepgpaaMemB
import Derived.Test.YtbmgmjfpoepgpaaInit
namespace Go.Proofs.Ytbmgmjfpoepgpaa
open Go.RowKit

theorem take_fill {xs : List Int} {n k : Nat} {x : Int} (hn : xs.length = n) (hx : xs[k]? = some x) : (xs.take k ++ List.replicate (n - k) 0).set k x = xs.take (k + 1) ++ List.replicate (n - (k + 1)) 0 := by
  have hk : k < n := by have := (List.getElem?_eq_some_iff.1 hx).1; omega
  have hl : (xs.take k).length = k := by rw [List.length_take]; omega
  rw [List.set_append_right _ _ (by omega), hl, Nat.sub_self, show n - k = (n - (k + 1)) + 1 by omega, List.replicate_succ, List.set_cons_zero, ← take_snoc hx, List.append_assoc]
  rfl
set_option maxRecDepth 100000 in
set_option maxHeartbeats 1000000 in
theorem of15 (A : Option Addr) (n cap : Nat) (xs : List Int) (hn : xs.length = n) (h1 : 1 ≤ n) (h2 : n ≤ 65536) (hu : ∀ x ∈ xs, U32 x) (w : World) (hs : SlAt w (· < w.heap.size) 1 (.slice A n cap) n (xs.map (Value.int .u32))) :
    Calls Try.prog 17 #[.slice A n cap] w fun e w' => e = .returned (.pointer (some ⟨w.heap.size + 1, 0, none⟩)) ∧ (∃ μ, MemAt w' (w.heap.size + 1) w.heap.size μ ∧ μ.cells = xs) ∧ Keeps (· < w.heap.size) w w' := by
  obtain ⟨A0, cap0, he, _, _, _, hcell⟩ := hs
  injection he with e1 _ e3
  subst e1 e3
  obtain ⟨b, off, rfl, hb, hcell⟩ := hcell (by omega)
  have HN := hid hn
  have HU := hid hu
  have HC := hid hcell
  clear hn hu hcell
  refine calls_hide fun R' hR' => ?_
  go_enter Try.func17, Try.ntmps17
  go_wp2_with fail
  refine (mem_new w n (by omega) (by omega)).mono ?_
  rintro e w1 ⟨rfl, hm1, hk1, hz1⟩
  generalize hc : w.heap.size = c at *
  generalize hm : c + 1 = m at *
  have hcm : c < m := by omega
  have Hm1 := hid hm1
  have Hk1 := hid hk1
  have Hc := hid hc
  have Hm := hid hm
  clear hm1 hk1 hc hm
  clear hz1
  go_wp2_with fail
  go_loopw [15] (fun iv wr => ∃ (k : Nat) (μ : MemS), iv = .int .i64 (k : Int) ∧ k ≤ n ∧ Hid (MemAt wr m c μ) ∧ Hid (μ.cells = xs.take k ++ List.replicate (n - k) 0) ∧ Hid (Keeps (· < c) w wr)) (fun iv _ => n - (intOf iv).toNat)
  case atStart => exact ⟨0, _, rfl, Nat.zero_le _, Hm1, hid (by simp), Hk1⟩
  case round =>
    obtain ⟨k, μ, rfl, hk, HM, HX, HK⟩ := hrel
    by_cases hlt : k < n
    · have hltI : (k : Int) < (n : Int) := by omega
      have hk0 : (0 : Int) ≤ (k : Int) := Int.natCast_nonneg k
      have hx : xs[k]? = some (xs[k]'(by have := HN.out; omega)) := List.getElem?_eq_getElem _
      generalize xs[k]'(by have := HN.out; omega) = x at hx
      have hux := HU.out x (List.mem_of_getElem? hx)
      have y0 := (World.cell?_of_block (a := ⟨b, off + k, none⟩) (HK.out.block b hb)).trans (HC.out k (.int .u32 x) (by rw [List.getElem?_map, hx]; rfl))
      have hnx := take_fill HN.out hx
      rw [← HX.out] at hnx
      have hin : μ.inb (k : Int) = true := by rw [inb_iff, HX.out]; simp; have := HN.out; omega
      have Hnx := hid hnx
      have Hux := hid hux
      have Hin := hid hin
      clear hnx hux hin
      clear hx
      go_wp2_with fail
      refine (mem_store HM.out (k : Int) x Hux.out).mono ?_
      rintro e w2 ⟨rfl, hm2, hk2⟩
      have hst : (μ.store (k : Int) x).cells = μ.cells.set k x := by unfold MemS.store; rw [if_pos Hin.out]; rfl
      rw [Hin.out]
      have hkk := HK.out.trans (hk2.mono fun b hb => by omega)
      rw [Hnx.out] at hst
      have Hm2 := hid hm2
      have Hkk := hid hkk
      have Hst := hid hst
      clear hm2 hkk hst
      clear hk2 y0
      go_wp2_with fail
      go_roundw
      case rel => exact ⟨k + 1, _, by go_num, hlt, Hm2, Hst, Hkk⟩
      case measure => first | (simp [intOf]; done) | (simp [intOf]; omega)
    · obtain rfl : k = n := by omega
      have hltI : ¬ (k : Int) < (k : Int) := by omega
      have hfin := HX.out
      rw [Nat.sub_self, List.replicate_zero, List.append_nil, List.take_of_length_le (by have := HN.out; omega)] at hfin
      have Hfin := hid hfin
      clear hfin
      go_wp2_with fail
      exact hR'.out _ _ ⟨rfl, ⟨μ, HM.out, Hfin.out⟩, HK.out⟩
set_option maxRecDepth 100000 in
set_option maxHeartbeats 1000000 in
theorem whole15 {w : World} {K : Nat → Prop} {m c : Nat} {μ : MemS} (hm : MemAt w m c μ) (hKm : ¬ K m) (hKc : ¬ K c) (hlt : ∀ b, K b → b < w.heap.size) (f : FuncId) (cap : Array Value)
    (hent : ∀ (args : Array Value) (w : World), (callFunc f args).run Try.prog w = .ok (.enter f args) w) {α : Type} (t : Tree α) {x : α} {cs' : List Int} {n : Nat}
    (hid0 : t.ideal μ.cells = some (x, cs', n)) (most : Nat) (hn : n ≤ most) (hm0 : 0 < most) (hm9 : most ≤ 1000000) (J : World → Prop) (Out : Nat → α → World → Prop) (hJ : J w) (hJk : ∀ w1 w2, J w1 → Keeps K w1 w2 → J w2) (hOk : ∀ r y w1 w2, ¬ K r → Out r y w1 → Keeps (· ≠ r) w1 w2 → Out r y w2)
    (hp : ∀ w1 r s1, J w1 → RM w1 K r m c s1 → Calls Try.prog f (#[.pointer (some ⟨r, 0, none⟩)] ++ cap) w1 fun e w2 => e = .returned (.tuple #[]) ∧ RM w2 K r m c (t.exec s1).2 ∧ J w2 ∧ Out r (t.exec s1).1 w2) :
    Calls Try.prog 22 #[.pointer (some ⟨m, 0, none⟩), .int .i64 (most : Int), .func (.func f) #[] cap] w fun e w' =>
      e = .returned (.bool true) ∧ (∃ μ', MemAt w' m c μ' ∧ μ'.cells = cs') ∧ J w' ∧ (∃ r, ¬ K r ∧ Out r x w') ∧ w.heap.size ≤ w'.heap.size := by
  have HM := hid hm
  have HJ := hid hJ
  have HJk := hid hJk
  have HOk := hid hOk
  have HP := hid hp
  have HE := hid hent
  have HI := hid hid0
  have HLT := hid hlt
  clear hm hJ hJk hOk hp hent hid0 hlt
  refine calls_hide fun R' hR' => ?_
  go_enter Try.func22, Try.ntmps22
  go_wp2_with fail
  refine (step_new w m).mono ?_
  rintro e w1 ⟨rfl, hr1, hk1, hz1⟩
  have hR1 : RM w1 K w.heap.size m c ⟨run0, μ⟩ := RM.init HM.out hr1 hk1 (fun b hb => ⟨HLT.out b hb, fun e => hKm (e ▸ hb), fun e => hKc (e ▸ hb)⟩)
  have HR1 := hid hR1
  have HJ1 := hid (HJk.out _ _ HJ.out (hk1.mono HLT.out))
  have HZ1 := hid (show w.heap.size ≤ w1.heap.size by omega)
  clear hr1 hk1 hz1 hR1
  generalize hr : w.heap.size = r at *
  have Hr := hid hr
  clear hr
  go_wp2_with fail
  go_loopw [11] (fun i wr => ∃ (j n' : Nat) (s : St) (rest : Tree α), i = .int .i64 j ∧ j ≤ n ∧ Way t s rest ∧ rest.ideal s.m.cells = some (x, cs', n') ∧ s.r.log.length = j ∧ ((j = 0 ∧ n' = n) ∨ (0 < j ∧ j + n' = n ∧ 1 ≤ n')) ∧
      RM wr K r m c s ∧ J wr ∧ r ≤ wr.heap.size) (fun i _ => most + 1 - (intOf i).toNat)
  case atStart => exact ⟨0, n, _, _, rfl, Nat.zero_le _, way_start t μ false false false 0, by rw [Tree.ideal_norm]; exact HI.out, rfl, Or.inl ⟨rfl, rfl⟩, HR1.out, HJ1.out, HZ1.out⟩
  case round =>
    obtain ⟨j, n', s, rest, rfl, hj, hway, hideal, hlen, hjn, hR, hJr, hZ⟩ := hrel
    have hj65 : (j : Int) < (most : Int) := by omega
    have HWY := hid hway
    have HID := hid hideal
    have HLN := hid hlen
    have HJN := hid hjn
    have HR := hid hR
    have HJr := hid hJr
    have HZ := hid hZ
    clear hway hideal hlen hjn hR hJr hZ
    go_wp2_with fail
    refine (run_step HR.out HWY.out.over (by have := HLN.out; omega) f cap HE.out t (fun w2 => J w2 ∧ Out r (s.step t).1 w2 ∧ r ≤ w2.heap.size) ?_).mono ?_
    · intro w2 hk2 hR2
      refine (HP.out w2 r _ (HJk.out _ _ HJr.out hk2) hR2).mono ?_
      rintro e w3 ⟨rfl, h1, h2, h3⟩
      exact ⟨rfl, h1, h2, h3, Nat.le_of_lt h1.lts.1⟩
    · rintro e w9 ⟨rfl, hR9, w3, ⟨hJ3, hO3, hZ3⟩, hk9⟩
      have hJ9 := HJk.out _ _ hJ3 (keeps_one hk9 HR.out.kr)
      have hO9 := HOk.out _ _ _ _ HR.out.kr hO3 hk9
      have hZ9 : r ≤ w9.heap.size := Nat.le_trans hZ3 hk9.size
      rcases ideal_step HWY.out HID.out with ⟨q1, q2, q3, q4, q5, q6⟩ | ⟨q1, q2, rest', q3, q4, q5⟩
      · have Q2 := hid q2
        rw [q2]
        rw [q6] at hO9
        generalize (s.step t).2 = s' at *
        have HR9 := hid hR9
        have HJ9 := hid hJ9
        have HO9 := hid hO9
        have HZ9 := hid hZ9
        have Q3 := hid q3
        have Q4 := hid q4
        clear hR9 hJ9 hO9 hZ9 q2 q3 q4 q5 q6 hJ3 hO3 hZ3 hk9
        obtain ⟨g, hrun, _⟩ := HR9.out.run
        go_wp2_with fail
        refine (run_over hrun).mono ?_
        rintro e w10 ⟨rfl, rfl⟩
        rw [Q2.out]
        go_wp2_with fail
        refine (run_err hrun).mono ?_
        rintro e w10 ⟨rfl, rfl⟩
        rw [Q3.out]
        go_wp2_with fail
        exact hR'.out _ _ ⟨rfl, ⟨s'.m, HR9.out.mem, Q4.out⟩, HJ9.out, ⟨r, HR.out.kr, HO9.out⟩, HZ9.out⟩
      · rw [q2]
        have HR9 := hid hR9
        have HJ9 := hid hJ9
        have HZ9 := hid hZ9
        have Q3 := hid q3
        have Q4 := hid q4
        have Q5 := hid q5
        clear hR9 hJ9 hO9 hZ9 q2 q3 q4 q5 hJ3 hO3 hZ3 hk9
        go_wp2_with fail
        go_roundw
        case rel => exact ⟨j + 1, n' - 1, _, rest', by go_num, by have := HJN.out; omega, Q3.out, Q4.out, by rw [Q5.out, HLN.out], Or.inr (by have := HJN.out; omega), HR9.out, HJ9.out, HZ9.out⟩
        case measure => simp [intOf]; have := HJN.out; omega

set_option maxRecDepth 100000 in
set_option maxHeartbeats 2000000 in
theorem same13 (va vb : Value) (es : List EntM) (K L : Nat → Prop) (w : World) (ha : EntV w K va es) (hb : EntV w L vb es) :
    Calls Try.prog 23 #[va, vb] w fun e w' => e = .returned (.bool true) ∧ ∃ n, w.drewN n = w' := by
  obtain ⟨A, ca, rfl, ha1, ha2⟩ := ha.form
  obtain ⟨B, cb, rfl, hb1, hb2⟩ := hb.form
  unfold maxLen at ha2 hb2
  have HA := hid ha
  have HB := hid hb
  clear ha hb
  refine calls_hide fun R' hR' => ?_
  go_enter Try.func23, Try.ntmps23
  have hbf : ((es.length : Int) != (es.length : Int)) = false := by simp
  go_wp2_with fail
  go_loopw [14] (fun iv wr => ∃ i n : Nat, iv = .int .i64 (i : Int) ∧ i ≤ es.length ∧ Hid (w.drewN n = wr)) (fun iv _ => es.length - (intOf iv).toNat)
  case atStart => exact ⟨0, 0, rfl, Nat.zero_le _, hid rfl⟩
  case round =>
    obtain ⟨i, n, rfl, hi, HW⟩ := hrel
    by_cases hlt : i < es.length
    · have hltI : (i : Int) < (es.length : Int) := by omega
      have hi0 : (0 : Int) ≤ (i : Int) := Int.natCast_nonneg i
      have hge : es[i]? = some es[i] := List.getElem?_eq_getElem hlt
      generalize es[i] = e at hge
      obtain ⟨b, off, cp, pv, e1, hKb, x0, x1, hps⟩ := HA.out.get hge
      injection e1 with e1 _ e2
      subst e1 e2
      obtain ⟨b', off', cp', pv', e1, hKb', x0', x1', hps'⟩ := HB.out.get hge
      injection e1 with e1 _ e2
      subst e1 e2
      obtain ⟨pA, pc, rfl, hp1, hp2⟩ := hps.form
      obtain ⟨pA', pc', rfl, hp1', hp2'⟩ := hps'.form
      unfold maxLen at hp2 hp2'
      have y0 : wr.cell? ⟨b, off + i * 2, none⟩ = some (.int .i64 e.doc) := by rw [← HW.out]; exact x0
      have y1 : wr.cell? ⟨b, off + i * 2 + 1, none⟩ = some (.slice pA e.pos.length pc) := by rw [← HW.out]; exact x1
      have y0' : wr.cell? ⟨b', off' + i * 2, none⟩ = some (.int .i64 e.doc) := by rw [← HW.out]; exact x0'
      have y1' : wr.cell? ⟨b', off' + i * 2 + 1, none⟩ = some (.slice pA' e.pos.length pc') := by rw [← HW.out]; exact x1'
      have hbd : (e.doc != e.doc) = false := by simp
      have hbp : ((e.pos.length : Int) != (e.pos.length : Int)) = false := by simp
      obtain ⟨ps, hps0⟩ : ∃ ps, ps = e.pos := ⟨_, rfl⟩
      rw [← hps0] at y1 y1' hp1 hp1' hbp hps hps'
      have HPS := hid hps
      have HPS2 := hid hps'
      clear x0 x1 x0' x1' hps hps' hge hps0
      go_upto_region 6 with fail
      go_quiet (fail)
      generalize nq = n1 at *
      go_wp2_with fail
      go_loopw [49] (fun kv wk => ∃ k n2 : Nat, kv = .int .i64 (k : Int) ∧ k ≤ ps.length ∧ Hid (wr.drewN n2 = wk)) (fun kv _ => ps.length - (intOf kv).toNat)
      case atStart => exact ⟨0, n1, rfl, Nat.zero_le _, hid rfl⟩
      case round =>
        rename World => wk
        obtain ⟨k, n2, rfl, hk, HK⟩ := hrel
        have z1 : wk.cell? ⟨b, off + i * 2 + 1, none⟩ = some (.slice pA ps.length pc) := by rw [← HK.out]; exact y1
        have z1' : wk.cell? ⟨b', off' + i * 2 + 1, none⟩ = some (.slice pA' ps.length pc') := by rw [← HK.out]; exact y1'
        by_cases hkn : k < ps.length
        · have hknI : (k : Int) < (ps.length : Int) := by omega
          have hk0 : (0 : Int) ≤ (k : Int) := Int.natCast_nonneg k
          have hgx : ps[k]? = some ps[k] := List.getElem?_eq_getElem hkn
          generalize ps[k] = x at hgx
          obtain ⟨b2, o2, c2, e1, _, v0⟩ := HPS.out.get k x hgx
          injection e1 with e1 em e2
          clear em
          subst e1 e2
          obtain ⟨b3, o3, c3, e1, _, v1⟩ := HPS2.out.get k x hgx
          injection e1 with e1 em e2
          clear em
          subst e1 e2
          have v2 : wk.cell? ⟨b2, o2 + k, none⟩ = some (.int .i64 x) := by rw [← HK.out, ← HW.out]; exact v0
          have v3 : wk.cell? ⟨b3, o3 + k, none⟩ = some (.int .i64 x) := by rw [← HK.out, ← HW.out]; exact v1
          have hbx : (x != x) = false := by simp
          clear v0 v1 hgx y0 y1 y0' y1'
          go_upto_region 11 with fail
          go_quiet (fail)
          go_wp2_with fail
          go_roundw
          case rel => exact ⟨k + 1, n2 + nq, by go_num, by omega, hid (by rw [← HK.out]; simp [World.drewN, Nat.add_assoc])⟩
          case measure => first | (simp [intOf]; done) | (simp [intOf]; omega)
        · have hknI : ¬ (k : Int) < (ps.length : Int) := by omega
          go_wp2_with fail
          go_roundw
          case rel => exact ⟨i + 1, n + n2, by go_num, by omega, hid (by rw [← HK.out, ← HW.out]; simp [World.drewN, Nat.add_assoc])⟩
          case measure => first | (simp [intOf]; done) | (simp [intOf]; omega)
    · obtain rfl : i = es.length := by omega
      have hltI : ¬ (es.length : Int) < (es.length : Int) := by omega
      go_wp2_with fail
      exact hR'.out _ _ ⟨rfl, n, HW.out⟩
end Go.Proofs.Ytbmgmjfpoepgpaa
