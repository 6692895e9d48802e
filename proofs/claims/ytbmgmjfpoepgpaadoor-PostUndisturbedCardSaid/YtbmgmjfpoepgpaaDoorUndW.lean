/- PostUndisturbed, walked. Printed by gen/undw.py. -/
import Derived.Test.YtbmgmjfpoepgpaaDoorUndA
import Derived.Test.YtbmgmjfpoepgpaaDoorOp09
import Derived.Deep.CutBlock
namespace Go.Proofs.YtbmgmjfpoepgpaaDoor
open Go.RowKit

theorem chain_none (P : Pools) (μ : List Int) (q : Nat → Nat) : Chain P μ (Used P q (fun _ => none)) (tailOf P none) [] := .nil

theorem tail_top {P : Pools} (hP : P.ok) {μ : List Int} {q : Nat → Nat} {T : Tails} (h : PostInv P μ q T) (j : Nat) : tailOf P (T j) ≤ P.b 3 + 256 * P.n 3 := by
  cases hT : T j with
  | none => simp [tailOf]
  | some x =>
    obtain ⟨k, i, a⟩ := x
    obtain ⟨hk, hi, ha1, ha2⟩ := h.slab _ _ _ _ hT
    have := in_lt hP (show P.In k i (tailOf P (some (k, i, a))) a from ⟨hk, Nat.lt_of_lt_of_le hi (h.qn k hk), ha2, rfl⟩)
    omega
/-- where the walk and the adds stand -/
structure PUS (w0 wx : World) (r m c uB tB pa : Nat) (P : Pools) (t : Tree (List Int)) (ws : List Int) (S : St) (g0 : Value) (d : Nat) (q : Nat → Nat) (T : Tails) (u : V6) : Prop where
  run : RM wx (fun b => b < r ∧ b ≠ m ∧ b ≠ c) r m c S
  pw : PW wx m c uB tB P S.m q T u
  got : Blk wx pa [g0]
  at' : PSt t (Used P q T) ws S d
  out : S.r.over = true → SlAt wx (fun b => b ≠ r ∧ b ≠ m ∧ b ≠ c ∧ ¬ (b < r ∧ b ≠ m ∧ b ≠ c)) 1 g0 ws.length (ws.map (Value.int .u32))
  keeps : Keeps (fun b => b < r ∧ b ≠ m ∧ b ≠ c ∧ b ≠ uB ∧ b ≠ tB ∧ b ≠ pa) w0 wx

theorem PUS.add {w0 wx w' : World} {r m c uB tB pa : Nat} {P : Pools} {t : Tree (List Int)} {ws : List Int} {S : St} {g0 : Value} {d : Nat} {q q' : Nat → Nat} {T T' : Tails} {u u' : V6} {μ' : MemS}
    (h : PUS w0 wx r m c uB tB pa P t ws S g0 d q T u) (hPW : PW w' m c uB tB P μ' q' T' u') (hk : PutKeep P S.m.cells q T μ'.cells q' T') (hK : Keeps (fun b => b < wx.heap.size ∧ b ≠ m ∧ b ≠ c ∧ b ≠ uB ∧ b ≠ tB) wx w')
    (hu : uB < r ∧ uB ≠ m ∧ uB ≠ c) (ht : tB < r ∧ tB ≠ m ∧ tB ≠ c) (ha : pa < r ∧ pa ≠ m ∧ pa ≠ c ∧ pa ≠ uB ∧ pa ≠ tB) : PUS w0 w' r m c uB tB pa P t ws ⟨S.r, μ'⟩ g0 d q' T' u' := by
  have hrl := h.run.lts.1
  refine ⟨h.run.beside hPW.mem hK (fun b h1 h2 h3 h4 => ⟨h1, h2, h3, fun e => h4 (e ▸ hu), fun e => h4 (e ▸ ht)⟩), hPW, h.got.keep hK ⟨h.got.lt, ha.2⟩, h.at'.turn μ' hk.mono hk.keep, fun ho => ?_, ?_⟩
  · exact (h.out ho).keepC hK (fun b h1 h2 => ⟨h1, h2.2.1, h2.2.2.1, fun e => h2.2.2.2 (e ▸ hu), fun e => h2.2.2.2 (e ▸ ht)⟩)
  · exact h.keeps.trans (hK.mono fun b hb => ⟨by have := hb.1; omega, hb.2.1, hb.2.2.1, hb.2.2.2.1, hb.2.2.2.2.1⟩)

set_option maxHeartbeats 1000000 in
theorem PUS.step {w0 wx : World} {r m c uB tB pa pp pt : Nat} {P : Pools} {ws : List Int} {S : St} {g0 : Value} {d : Nat} {q : Nat → Nat} {T : Tails} {u : V6} {p : PlanM} {nc : Nat} {t0 : Int}
    (h : PUS w0 wx r m c uB tB pa P (walkT p nc t0 []) ws S g0 d q T u) (hp : p.Wf) (ht0 : -9223372036854775808 ≤ t0 ∧ t0 ≤ 9223372036854775807) (hnc : p.cells = nc) (hn2 : nc ≤ 65536) (hT : Tab wx) (h0 : 0 < r ∧ 0 ≠ m ∧ 0 ≠ c)
    (hbp : Blk wx pp [.int .i64 p.base.a0, .int .i64 p.base.a1, .int .i64 p.base.a2, .int .i64 p.base.a3, .int .i64 p.base.a4, .int .i64 p.base.a5, .int .i64 p.size.a0, .int .i64 p.size.a1, .int .i64 p.size.a2, .int .i64 p.size.a3, .int .i64 p.size.a4, .int .i64 p.size.a5, .int .i64 p.cells, .int .i64 p.slots, .int .i64 p.live]) (hbt : Blk wx pt [.int .i64 t0]) (hpp : pp < r ∧ pp ≠ m ∧ pp ≠ c) (hpt : pt < r ∧ pt ≠ m ∧ pt ≠ c) (hu : uB < r ∧ uB ≠ m ∧ uB ≠ c) (ht : tB < r ∧ tB ≠ m ∧ tB ≠ c) (ha : pa < r ∧ pa ≠ m ∧ pa ≠ c ∧ pa ≠ uB ∧ pa ≠ tB) (hlog : S.r.log.length < 1099511627776) :
    Calls Tryd.prog 21 #[.pointer (some ⟨r, 0, none⟩), .func (.func 19) #[] #[.pointer (some ⟨pp, 0, none⟩), .pointer (some ⟨pt, 0, none⟩), .pointer (some ⟨pa, 0, none⟩)]] wx fun e w' =>
      ∃ S' g' d', e = .returned (.bool S'.r.over) ∧ PUS w0 w' r m c uB tB pa P (walkT p nc t0 []) ws S' g' d' q T u ∧ (d' < d ∨ S'.r.over = true) ∧ S'.r.log.length ≤ S.r.log.length + 1 ∧ d' ≤ d ∧ (S.r.over = true → S'.r.over = true) := by
  refine (pu_step h.run (K := fun b => b < r ∧ b ≠ m ∧ b ≠ c) h0 hT pp pt pa p hp t0 ht0 nc hnc hn2 g0 hbp hbt h.got hpp hpt ⟨ha.1, ha.2.1, ha.2.2.1⟩ h.at' h.out hlog).mono ?_
  rintro e w' ⟨S', g', d', rfl, h1, h2, h3, h4, h5, h6, h7, h8, h9, h10⟩
  have k1 := h.pw.blkU.keep h3 ⟨hu, fun e => ha.2.2.2.1 e.symm⟩
  have k2 := h.pw.blkT.keep h3 ⟨ht, fun e => ha.2.2.2.2 e.symm⟩
  exact ⟨S', g', d', rfl, ⟨h1, ⟨h1.mem, by rw [h4]; exact h.pw.inv, h.pw.used, by rw [h4]; exact h.pw.len, k1, k2⟩, h2, h5, h6, h.keeps.trans (h3.mono fun b hb => ⟨⟨hb.1, hb.2.1, hb.2.2.1⟩, hb.2.2.2.2.2⟩)⟩, h7, h8, h9, h10⟩

set_option maxRecDepth 100000 in
set_option maxHeartbeats 16000000 in
theorem pu_walk (c : ConfM) (A B C : Option Addr) (ca cB cc : Nat) (ahead behind : List OpM) (turns : List Int) (w : World) (hT : Tab w) (hOa : ∀ x ∈ ahead, x.wf) (hOb : ∀ x ∈ behind, x.wf) (hU : ∀ x ∈ turns, 0 ≤ x ∧ x ≤ 255)
    (hsa : SlAt w (· < w.heap.size) 2 (.slice A ahead.length ca) ahead.length (ahead.flatMap OpM.cells)) (hsb : SlAt w (· < w.heap.size) 2 (.slice B behind.length cB) behind.length (behind.flatMap OpM.cells))
    (hsc : SlAt w (· < w.heap.size) 1 (.slice C turns.length cc) turns.length (turns.map (Value.int .u8))) :
    Calls Tryd.prog 5 #[.agg c.list.toArray, .slice A ahead.length ca, .slice B behind.length cB, .slice C turns.length cc] w fun e w' => e = .returned (.bool true) ∧ Keeps (· < w.heap.size) w w' := by
  obtain ⟨A0, cap0, he, hca1, hca2⟩ := hsa.form
  injection he with e1 _ e3
  subst e1 e3
  obtain ⟨A0, cap0, he, hcb1, hcb2⟩ := hsb.form
  injection he with e1 _ e3
  subst e1 e3
  obtain ⟨A0, cap0, he, hcc1, hcc2⟩ := hsc.form
  injection he with e1 _ e3
  subst e1 e3
  unfold maxLen at hca2 hcb2 hcc2
  obtain ⟨p, b, hplan, hb⟩ := plan_any c
  obtain ⟨docs, terms, s0, s1, s2, s3, book, room, kk, bb⟩ := c
  unfold ConfM.list at *
  have HPL := hid hplan
  have HPB := hid hb
  have HT := hid hT
  have HSA := hid hsa
  have HSB := hid hsb
  have HSC := hid hsc
  have HOA := hid hOa
  have HOB := hid hOb
  have HU := hid hU
  clear hplan hb hT hsa hsb hsc hOa hOb hU
  refine calls_hide fun R' hR' => ?_
  unfold PlanM.val at HPL
  go_enter Tryd.func5, Tryd.ntmps5
  go_wp2_with fail
  refine (HPL.out _).mono ?_
  rintro e w1 ⟨rfl, hk1⟩
  have hk : Keeps (· < w.heap.size) w w1 := ((Keeps.refl _ _).alloc (fun b hb => hb) _).trans (hk1.mono fun b hb => by simp only [World.size_alloc]; omega)
  have h0 : 0 < w.heap.size := HT.out.2.2.2.2
  generalize hws : w.heap.size = ws at *
  have hz1 := hk.size
  have Hk := hid hk
  have Hws := hid hws
  have H0 := hid h0
  have Hz1 := hid hz1
  clear hk hws h0 hz1
  clear hk1 HPL
  cases b with
  | false =>
    go_wp2_with fail
    refine (fixed09 _ ?_).mono ?_
    · exact HT.out.keep (Hk.out.alloc (fun b hb => by have := Hk.out.size; have := Hws.out; omega) _) H0.out
    rintro e w2 ⟨rfl, hk2⟩
    have hkf : Keeps (· < ws) w w2 := (Hk.out.alloc (fun b hb => by have := Hk.out.size; have := Hws.out; omega) _).trans (hk2.mono fun b hb => by have := Hk.out.size; have := Hws.out; simp only [World.size_alloc]; omega)
    clear hk2
    have Hkf := hid hkf
    clear hkf
    go_wp2_with fail
    exact hR'.out _ _ ⟨rfl, Hkf.out⟩
  | true =>
    obtain ⟨hcok, hall, hpe⟩ := HPB.out rfl
    clear HPB
    have hcp := conf_pools _ hcok (by omega)
    rw [← hpe] at hcp
    have hpc : p.cells = ConfM.all ⟨docs, terms, s0, s1, s2, s3, book, room, kk, bb⟩ := by rw [hpe]; rfl
    generalize ConfM.all ⟨docs, terms, s0, s1, s2, s3, book, room, kk, bb⟩ = call at *
    generalize ConfM.pools ⟨docs, terms, s0, s1, s2, s3, book, room, kk, bb⟩ = P at *
    obtain ⟨hP, hl, hpt, hc3⟩ := hcp
    have HX := hid (And.intro hP (And.intro hl (And.intro hpt (And.intro hc3 (And.intro hall hpc)))))
    clear hP hl hpt hc3 hall hpc hpe hcok
    go_wp2_with fail
    refine calls_gen (fun W => Blk W w1.heap.size [.int .i64 p.base.a0, .int .i64 p.base.a1, .int .i64 p.base.a2, .int .i64 p.base.a3, .int .i64 p.base.a4, .int .i64 p.base.a5, .int .i64 p.size.a0, .int .i64 p.size.a1, .int .i64 p.size.a2, .int .i64 p.size.a3, .int .i64 p.size.a4, .int .i64 p.size.a5, .int .i64 p.cells, .int .i64 p.slots, .int .i64 p.live] ∧ Keeps (· < ws) w W) ⟨?_, ?_⟩ ?_
    · repeat (first | with_reducible assumption | with_reducible exact Blk.new _ _ _ | with_reducible refine Blk.drew ?_ | with_reducible refine Blk.drewN ?_ _ | with_reducible refine Blk.set_ne ?_ _ ?_ | (with_reducible refine Blk.new' _ _ _ ?_; focus (simp; done)) | with_reducible refine Blk.alloc ?_ _)
      all_goals (first | assumption | (simp; done) | (simp; omega))
    · exact Hk.out.alloc (fun b hb => by have := Hk.out.size; have := Hws.out; omega) _
    rintro W2 ⟨hBP, hK2⟩
    have hbp : ws ≤ w1.heap.size := by have := Hk.out.size; have := Hws.out; omega
    generalize w1.heap.size = bp at *
    clear Hk Hz1
    refine (mem_newI W2 p.cells (by have := HX.out.2.2.2.1; have := HX.out.2.2.2.2.2; omega) (by have := HX.out.2.2.2.2.1; have := HX.out.2.2.2.2.2; omega)).mono ?_
    rintro e w3 ⟨rfl, hm3, hk3, hz3⟩
    have hlb := hBP.lt
    have hB3 := hBP.keep hk3 hlb
    have hK3 := hK2.trans (hk3.mono fun b hb => by omega)
    clear hk3 hBP hK2
    generalize hcc : W2.heap.size = cb at *
    generalize hmm : cb + 1 = m at *
    have HNN := hid (show ws ≤ bp ∧ bp < cb ∧ cb + 1 = m ∧ w3.heap.size = cb + 2 ∧ 0 < ws from ⟨hbp, hlb, hmm, by omega, H0.out⟩)
    have Hm3 := hid hm3
    have HK3 := hid hK3
    have HB3 := hid hB3
    clear hm3 hK3 hB3
    clear hcc hmm hlb hz3 hbp
    go_upto_block 0 with fail
    refine wp_gen (fun W => Blk W w3.heap.size [.pointer (some ⟨m, 0, none⟩)] ∧ PW W m cb (w3.heap.size + 1 + 1) (w3.heap.size + 1) P ⟨List.replicate p.cells.toNat 0, 0, 0⟩ (fun _ => 0) (fun _ => none) zerosN ∧ Blk W bp [.int .i64 p.base.a0, .int .i64 p.base.a1, .int .i64 p.base.a2, .int .i64 p.base.a3, .int .i64 p.base.a4, .int .i64 p.base.a5, .int .i64 p.size.a0, .int .i64 p.size.a1, .int .i64 p.size.a2, .int .i64 p.size.a3, .int .i64 p.size.a4, .int .i64 p.size.a5, .int .i64 p.cells, .int .i64 p.slots, .int .i64 p.live] ∧ Keeps (· < ws) w W) ⟨?_, ?_, ?_, ?_⟩ ?_
    · exact ((Blk.new w3 _ _).alloc _).alloc _
    · refine ⟨Hm3.out.keep (K := (· < w3.heap.size)) ((((Keeps.refl _ _).alloc (fun b hb => hb) _).alloc (fun b hb => by simp; omega) _).alloc (fun b hb => by simp; omega) _) Hm3.out.obj.lt Hm3.out.cells.lt, post_init P HX.out.1 _ (by have := HX.out.2.2.1; have := HX.out.2.2.2.2.2; omega), used_init, by show _ ≤ (List.replicate p.cells.toNat (0 : Int)).length; rw [List.length_replicate]; have := HX.out.2.2.1; have := HX.out.2.2.2.2.2; omega, ?_, ?_⟩
      · exact Blk.new' _ [.int .i64 0, .int .i64 0, .int .i64 0, .int .i64 0, .int .i64 0, .int .i64 0] _ (by simp)
      · exact (Blk.new' _ [.int .i64 0, .int .i64 0, .int .i64 0, .int .i64 0, .int .i64 0, .int .i64 0, .int .i64 0, .int .i64 0] _ (by simp)).alloc _
    · exact ((HB3.out.alloc _).alloc _).alloc _
    · exact ((HK3.out.alloc (fun b hb => by have := HNN.out; omega) _).alloc (fun b hb => by have := HNN.out; simp; omega) _).alloc (fun b hb => by have := HNN.out; simp; omega) _
    clear Hm3 HK3 HB3
    have hnn := HNN.out
    clear HNN
    rintro W6 ⟨hBM, hPW, hBp, hKw⟩
    generalize hbM : w3.heap.size = bM at *
    generalize htB : bM + 1 = tB at *
    generalize huB : tB + 1 = uB at *
    have hu6 := hPW.blkU.lt
    have HNN := hid (show ws ≤ bp ∧ bp < cb ∧ cb < m ∧ m < bM ∧ bM < tB ∧ tB < uB ∧ uB < W6.heap.size ∧ 0 < ws by omega)
    have HNE := hid (show bM ≠ m ∧ bM ≠ cb ∧ bp ≠ m ∧ bp ≠ cb ∧ uB ≠ m ∧ uB ≠ cb ∧ tB ≠ m ∧ tB ≠ cb ∧ bM ≠ uB ∧ bM ≠ tB ∧ bp ≠ uB ∧ bp ≠ tB ∧ uB ≠ tB ∧ 0 ≠ m ∧ 0 ≠ cb by omega)
    have HGW := hid (show ∀ b, b < ws → b < W6.heap.size ∧ b ≠ m ∧ b ≠ cb ∧ b ≠ uB ∧ b ≠ tB from fun b hb => by omega)
    clear hnn hbM htB huB hu6 H0
    have HBM := hid hBM
    have HPW := hid hPW
    have HBp := hid hBp
    have HKw := hid hKw
    clear hBM hPW hBp hKw
    go_cut [16, 17] from 44 to 54 (fun a b wx => ∃ (μ : MemS) (q : Nat → Nat) (T : Tails) (u : V6) (l : List Int), PW wx m cb uB tB P μ q T u ∧ Chain P μ.cells (Used P q T) (tailOf P (T 0)) l ∧ l.length ≤ 61 ∧ Keeps (fun b => b < W6.heap.size ∧ b ≠ m ∧ b ≠ cb ∧ b ≠ uB ∧ b ≠ tB) W6 wx)
    case first =>
      go_wp2_with fail
      go_loopw [44] (fun i wr => ∃ (k : Nat) (μ : MemS) (q : Nat → Nat) (T : Tails) (u : V6) (l : List Int), i = .int .i64 (k : Int) ∧ k ≤ ahead.length ∧ k ≤ 61 ∧ Hid (PW wr m cb uB tB P μ q T u ∧ Chain P μ.cells (Used P q T) (tailOf P (T 0)) l ∧ l.length ≤ k ∧ Keeps (fun b => b < W6.heap.size ∧ b ≠ m ∧ b ≠ cb ∧ b ≠ uB ∧ b ≠ tB) W6 wr)) (fun i _ => ahead.length - (intOf i).toNat)
      case atStart => exact ⟨0, _, _, _, _, [], rfl, Nat.zero_le _, by omega, hid ⟨HPW.out, chain_none P _ _, Nat.zero_le _, Keeps.refl _ _⟩⟩
      case round =>
        obtain ⟨k, μ, q, T, u, l, rfl, hk, hk61, HH⟩ := hrel
        by_cases hlt : k < ahead.length
        · have hlt' : (k : Int) < (ahead.length : Int) := by omega
          obtain ⟨b, off, cp, e1, hKb, x0, x1⟩ := HSA.out.op (List.getElem?_eq_getElem hlt)
          injection e1 with e1 _ e2
          subst e1 e2
          have hkw := HKw.out.trans (HH.out.2.2.2.mono HGW.out)
          have y0 := (World.cell?_of_block (a := ⟨b, off + k * 2, none⟩) (hkw.block b hKb)).trans x0
          have y1 := (World.cell?_of_block (a := ⟨b, off + k * 2 + 1, none⟩) (hkw.block b hKb)).trans x1
          have hwf := HOA.out ahead[k] (List.getElem_mem hlt)
          generalize ahead[k] = x at *
          have hTr : Tab wr := HT.out.keep hkw HNN.out.2.2.2.2.2.2.2
          by_cases h60 : k ≤ 60
          · have h60' : decide ((k : Int) > 60) = false := by simp; omega
            have h60b : ¬ (k : Int) > 60 := by omega
            have hbM := HBM.out.keep HH.out.2.2.2 ⟨by have := HNN.out; omega, by have := HNN.out; omega, by have := HNN.out; omega, by have := HNN.out; omega, by have := HNN.out; omega⟩
            have hbp := HBp.out.keep HH.out.2.2.2 ⟨by have := HNN.out; omega, by have := HNN.out; omega, by have := HNN.out; omega, by have := HNN.out; omega, by have := HNN.out; omega⟩
            have hal : Keeps (· < wr.heap.size) wr (wr.alloc (.cells #[.int .u8 x.t, .int .u32 x.w] 43)) := (Keeps.refl _ _).alloc (fun b hb => hb) _
            have hcall := padd_call HX.out.1 HX.out.2.1 (HH.out.1.keep hal HH.out.1.mem.obj.lt HH.out.1.mem.cells.lt HH.out.1.blkU.lt HH.out.1.blkT.lt) x.t x.w hwf.1 hwf.2 (hTr.keep hal hTr.2.2.2.2) (hbM.alloc _) (hbp.alloc _) HNE.out
            have hzr := HH.out.2.2.2.size
            have hzu := HH.out.1.blkU.lt
            have Hcall := hid hcall
            have Hkw := hid hkw
            have Hzr := hid hzr
            have Hzu := hid hzu
            clear hcall hkw hzr hzu
            clear hbM hbp hal hTr hwf x0 x1
            go_wp2_with fail
            refine Hcall.out.mono ?_
            rintro e w' ⟨rfl, μ', q', T', u', hPW', hKe, hch, hch2, hk'⟩
            obtain ⟨l', hl1, hl2⟩ := hch2 0 _ HH.out.2.1
            have hK2 := HH.out.2.2.2.trans (((Keeps.refl _ _).alloc (fun b hb => by have := Hzr.out; have := hb.1; omega) _).trans (hk'.mono fun b hb => ⟨by have := Hzr.out; have := hb.1; simp; omega, hb.2⟩))
            have HN2 := hid (show PW w' m cb uB tB P μ' q' T' u' ∧ Chain P μ'.cells (Used P q' T') (tailOf P (T' 0)) l' ∧ l'.length ≤ k + 1 ∧ Keeps (fun b => b < W6.heap.size ∧ b ≠ m ∧ b ≠ cb ∧ b ≠ uB ∧ b ≠ tB) W6 w' from ⟨hPW', hl1, by have := HH.out.2.2.1; omega, hK2⟩)
            clear hPW' hKe hch hch2 hk' hl1 hl2 hK2 y0 y1
            go_wp2_with fail
            go_roundw
            case rel => exact ⟨k + 1, μ', q', T', u', l', by go_num, by omega, by omega, HN2⟩
            case measure => simp [intOf]; omega
          · have h60' : decide ((k : Int) > 60) = true := by simp; omega
            have h60b : (k : Int) > 60 := by omega
            clear hwf hTr x0 x1
            have hal : Keeps (fun b => b < W6.heap.size ∧ b ≠ m ∧ b ≠ cb ∧ b ≠ uB ∧ b ≠ tB) W6 (wr.alloc (.cells #[.int .u8 x.t, .int .u32 x.w] 43)) := HH.out.2.2.2.alloc (fun b hb => by have := HH.out.2.2.2.size; have := hb.1; omega) _
            have hal2 : Keeps (· < wr.heap.size) wr (wr.alloc (.cells #[.int .u8 x.t, .int .u32 x.w] 43)) := (Keeps.refl _ _).alloc (fun b hb => hb) _
            have hPW2 := HH.out.1.keep hal2 HH.out.1.mem.obj.lt HH.out.1.mem.cells.lt HH.out.1.blkU.lt HH.out.1.blkT.lt
            have Hkw := hid hkw
            have Hal := hid hal
            have HPW2 := hid hPW2
            clear hkw hal hPW2
            clear hal2
            go_wp2_with fail
            go_meet
            case rel => exact ⟨μ, q, T, u, l, HPW2.out, HH.out.2.1, by have := HH.out.2.2.1; omega, Hal.out⟩
        · have hlt' : ¬ (k : Int) < (ahead.length : Int) := by omega
          go_wp2_with fail
          go_meet
          case rel => exact ⟨μ, q, T, u, l, HH.out.1, HH.out.2.1, by have := HH.out.2.2.1; omega, HH.out.2.2.2⟩
    case rest =>
      obtain ⟨μ, q, T, u, l, hPW, hch, hll, hK⟩ := hcut
      have hbM := HBM.out.keep hK ⟨by have := HNN.out; omega, by have := HNN.out; omega, by have := HNN.out; omega, by have := HNN.out; omega, by have := HNN.out; omega⟩
      have hbp := HBp.out.keep hK ⟨by have := HNN.out; omega, by have := HNN.out; omega, by have := HNN.out; omega, by have := HNN.out; omega, by have := HNN.out; omega⟩
      have hkw := HKw.out.trans (hK.mono HGW.out)
      have hzw := hK.size
      obtain ⟨t0, ht0⟩ : ∃ t0, t0 = tailOf P (T 0) := ⟨_, rfl⟩
      have htb := tail_top HX.out.1 hPW.inv 0
      rw [← ht0] at hch htb
      have hct : wc.cell? ⟨tB, 0, none⟩ = some (.int .i64 (t0 : Int)) := by rw [ht0]; exact hPW.blkT.cell 0
      have hbM0 := hbM
      have hbp0 := hbp
      have cm0 := (hbM0).cell 0
      simp only [List.getElem?_cons_zero] at cm0
      have cp0 := (hbp0).cell 0
      have cp1 := (hbp0).cell 1
      have cp2 := (hbp0).cell 2
      have cp3 := (hbp0).cell 3
      have cp4 := (hbp0).cell 4
      have cp5 := (hbp0).cell 5
      have cp6 := (hbp0).cell 6
      have cp7 := (hbp0).cell 7
      have cp8 := (hbp0).cell 8
      have cp9 := (hbp0).cell 9
      have cp10 := (hbp0).cell 10
      have cp11 := (hbp0).cell 11
      have cp12 := (hbp0).cell 12
      have cp13 := (hbp0).cell 13
      have cp14 := (hbp0).cell 14
      simp only [List.getElem?_cons_zero, List.getElem?_cons_succ] at cp0 cp1 cp2 cp3 cp4 cp5 cp6 cp7 cp8 cp9 cp10 cp11 cp12 cp13 cp14
      have n1 : bM < wc.heap.size := hbM0.lt
      have n2 : bp < wc.heap.size := hbp0.lt
      clear hbM0 hbp0 ht0 HPW HBM HBp HKw HSA HOA
      have hchl := hch.len
      have hlc : l.length ≤ p.cells.toNat := by have := HX.out.2.2.1; have := HX.out.2.2.2.2.2; have := hPW.inv; have hlen := hch.len; omega
      have HPW := hid hPW
      have Hch := hid hch
      have HbM := hid hbM
      have Hbp := hid hbp
      have Hkw := hid hkw
      have Hzw := hid hzw
      clear hPW hch hbM hbp hkw hzw
      clear hK
      go_wp2_with fail
      refine calls_gen (fun W => Blk W wc.heap.size [.int .i64 (t0 : Int)] ∧ PW W m cb uB tB P μ q T u ∧ Blk W bM [.pointer (some ⟨m, 0, none⟩)] ∧ Blk W bp [.int .i64 p.base.a0, .int .i64 p.base.a1, .int .i64 p.base.a2, .int .i64 p.base.a3, .int .i64 p.base.a4, .int .i64 p.base.a5, .int .i64 p.size.a0, .int .i64 p.size.a1, .int .i64 p.size.a2, .int .i64 p.size.a3, .int .i64 p.size.a4, .int .i64 p.size.a5, .int .i64 p.cells, .int .i64 p.slots, .int .i64 p.live] ∧ Keeps (· < ws) w W) ⟨?_, ?_, ?_, ?_, ?_⟩ ?_
      · exact Blk.new wc _ _
      · exact HPW.out.keep (K := (· < wc.heap.size)) ((Keeps.refl _ _).alloc (fun b hb => hb) _) HPW.out.mem.obj.lt HPW.out.mem.cells.lt HPW.out.blkU.lt HPW.out.blkT.lt
      · exact HbM.out.alloc _
      · exact Hbp.out.alloc _
      · exact Hkw.out.alloc (fun b hb => by have := HNN.out; have := Hzw.out; omega) _
      have hzu := HPW.out.blkU.lt
      clear n1 n2 HPW HbM Hbp Hkw cm0 cp0 cp1 cp2 cp3 cp4 cp5 cp6 cp7 cp8 cp9 cp10 cp11 cp12 cp13 cp14 hct
      generalize hpt : wc.heap.size = pt at *
      rintro W7 ⟨hB7, hP7, hM7, hp7, hk7⟩
      have hN7 := hB7.lt
      have HN7 := hid (show W6.heap.size ≤ pt ∧ pt < W7.heap.size ∧ uB < pt from ⟨Hzw.out, hN7, hzu⟩)
      clear hN7 hzu hpt Hzw
      have hT7 : Tab W7 := HT.out.keep hk7 HNN.out.2.2.2.2.2.2.2
      obtain ⟨n0, hn0, hid0⟩ := walk_ideal (p := p) HX.out.1 HX.out.2.1 Hch.out p.cells.toNat [] hlc
      rw [List.nil_append] at hid0
      have hpw := HX.out.2.1.wf HX.out.1
      have hnc : p.cells = ((p.cells.toNat : Nat) : Int) := by have := HX.out.2.2.2.1; have := HX.out.2.2.2.2.2; omega
      have hn9 : p.cells.toNat ≤ 9000 := by have := HX.out.2.2.2.2.1; have := HX.out.2.2.2.2.2; omega
      refine (walk09u (K := fun b => b < W7.heap.size ∧ b ≠ m ∧ b ≠ cb) hP7.mem (fun h => h.2.1 rfl) (fun h => h.2.2 rfl) (fun b hb => hb.1) ⟨by have := HN7.out; omega, by have := HNN.out; omega, by have := HNN.out; omega⟩ hT7 p hpw (t0 : Int) (by have := HX.out.1.top; omega) p.cells.toNat hnc (by omega) hid0 (by omega)).mono ?_
      rintro e w8 ⟨g, rfl, hS8, ⟨μ8, hm8, hc8⟩, hk8⟩
      obtain ⟨gA, gc, rfl, -, -⟩ := hS8.form
      have hz8 := hk8.size
      have hP8 : PW w8 m cb uB tB P μ8 q T u := ⟨hm8, by rw [hc8]; exact hP7.inv, hP7.used, by rw [hc8]; exact hP7.len, hP7.blkU.keep hk8 ⟨hP7.blkU.lt, by have := HNN.out; omega, by have := HNN.out; omega⟩, hP7.blkT.keep hk8 ⟨hP7.blkT.lt, by have := HNN.out; omega, by have := HNN.out; omega⟩⟩
      have hM8 := hM7.keep hk8 ⟨hM7.lt, by have := HNN.out; omega, by have := HNN.out; omega⟩
      have hp8 := hp7.keep hk8 ⟨hp7.lt, by have := HNN.out; omega, by have := HNN.out; omega⟩
      have hB8 := hB7.keep hk8 ⟨hB7.lt, by have := HNN.out; have := HN7.out; omega, by have := HNN.out; have := HN7.out; omega⟩
      have hk8' := hk7.trans (hk8.mono fun b hb => ⟨by have := HNN.out; have := HN7.out; omega, by have := HNN.out; omega, by have := HNN.out; omega⟩)
      have hch8 : Chain P μ8.cells (Used P q T) t0 l := by rw [hc8]; exact Hch.out
      have hS8' : SlAt w8 (fun b => W7.heap.size ≤ b ∧ b < w8.heap.size) 1 (.slice gA l.length gc) l.length (l.map (Value.int .u32)) := hS8.boundU.mono fun b hb => ⟨by have := hb.1; by_cases hlt : b < W7.heap.size; exact absurd ⟨hlt, this.1, this.2.1⟩ this.2.2; omega, hb.2⟩
      have hid8 : (walkT p p.cells.toNat (t0 : Int) []).ideal μ8.cells = some (l, μ8.cells, n0) := by rw [hc8]; exact hid0
      clear hS8 hm8 hc8 hk8 hk7 hB7 hP7 hM7 hp7 hT7 hid0 Hch
      have hM80 := hM8
      have cm0 := (hM80).cell 0
      simp only [List.getElem?_cons_zero] at cm0
      have n1 : bM < w8.heap.size := hM80.lt
      clear hM80
      have HN8 := hid (show W7.heap.size ≤ w8.heap.size from hz8)
      clear hz8
      have HP8 := hid hP8
      have HM8 := hid hM8
      have Hp8 := hid hp8
      have HB8 := hid hB8
      have Hk8' := hid hk8'
      have Hch8 := hid hch8
      have HS8' := hid hS8'
      have Hid8 := hid hid8
      have Hnc := hid hnc
      have Hn9 := hid hn9
      have Hpw := hid hpw
      clear hP8 hM8 hp8 hB8 hk8' hch8 hS8' hid8 hnc hn9 hpw
      go_wp2_with fail
      refine calls_gen (fun W => Blk W w8.heap.size [.slice none 0 0] ∧ PW W m cb uB tB P μ8 q T u ∧ Blk W bM [.pointer (some ⟨m, 0, none⟩)] ∧ Blk W bp [.int .i64 p.base.a0, .int .i64 p.base.a1, .int .i64 p.base.a2, .int .i64 p.base.a3, .int .i64 p.base.a4, .int .i64 p.base.a5, .int .i64 p.size.a0, .int .i64 p.size.a1, .int .i64 p.size.a2, .int .i64 p.size.a3, .int .i64 p.size.a4, .int .i64 p.size.a5, .int .i64 p.cells, .int .i64 p.slots, .int .i64 p.live] ∧ Blk W pt [.int .i64 (t0 : Int)] ∧ SlAt W (fun b => W7.heap.size ≤ b ∧ b < w8.heap.size) 1 (.slice gA l.length gc) l.length (l.map (Value.int .u32)) ∧ Keeps (· < ws) w W) ⟨?_, ?_, ?_, ?_, ?_, ?_, ?_⟩ ?_
      · exact Blk.new w8 _ _
      · exact HP8.out.keep (K := (· < w8.heap.size)) ((Keeps.refl _ _).alloc (fun b hb => hb) _) HP8.out.mem.obj.lt HP8.out.mem.cells.lt HP8.out.blkU.lt HP8.out.blkT.lt
      · exact HM8.out.alloc _
      · exact Hp8.out.alloc _
      · exact HB8.out.alloc _
      · exact HS8'.out.keep (L := (· < w8.heap.size)) ((Keeps.refl _ _).alloc (fun b hb => hb) _) (fun b hb => hb.2)
      · exact Hk8'.out.alloc (fun b hb => by have := HNN.out; have := HN7.out; have := HN8.out; omega) _
      clear n1 HP8 HM8 Hp8 HB8 Hk8' HS8' cm0
      generalize hpa : w8.heap.size = pa at *
      rintro W8 ⟨hA8, hP8, hM8, hp8, hB8, hS8, hk8⟩
      refine (step_new W8 m).mono ?_
      rintro e w9 ⟨rfl, hr9, hk9, hz9⟩
      have hR9 : RM w9 (fun b => b < W8.heap.size ∧ b ≠ m ∧ b ≠ cb) W8.heap.size m cb ⟨run0, μ8⟩ := RM.init hP8.mem hr9 hk9 (fun b hb => hb)
      have HN9 := hid (show W6.heap.size ≤ pt ∧ pt < W7.heap.size ∧ uB < pt ∧ W7.heap.size ≤ pa ∧ pa < W8.heap.size from ⟨HN7.out.1, HN7.out.2.1, HN7.out.2.2, HN8.out, hA8.lt⟩)
      have hP9 := hP8.keep hk9 hP8.mem.obj.lt hP8.mem.cells.lt hP8.blkU.lt hP8.blkT.lt
      have hM9 := hM8.keep hk9 hM8.lt
      have hp9 := hp8.keep hk9 hp8.lt
      have hB9 := hB8.keep hk9 hB8.lt
      have hA9 := hA8.keep hk9 hA8.lt
      have hS9 := hS8.keep hk9 (fun b hb => by have := HN9.out; show b < W8.heap.size; omega)
      have hk9' := hk8.trans (hk9.mono fun b hb => by have := HNN.out; have := HN9.out; omega)
      clear hA8 hP8 hM8 hp8 hB8 hS8 hk8 hr9 hk9 hz9 HN7 HN8 hpa
      generalize W8.heap.size = r at *
      have hw0 := way_start (walkT p p.cells.toNat (t0 : Int) []) μ8 false false false 0
      have hPU : PUS w9 w9 r m cb uB tB pa P (walkT p p.cells.toNat (t0 : Int) []) l ⟨run0, μ8⟩ (.slice none 0 0) n0 q T u :=
        ⟨hR9, hP9, hA9, Or.inr ⟨rfl, _, hw0, by rw [Tree.ideal_norm]; exact Hid8.out, Tree.only_norm _ _ (walk_only HX.out.1 HX.out.2.1 Hch8.out _ _)⟩, fun h => (by have h' : (false : Bool) = true := h; cases h'), Keeps.refl _ _⟩
      have hGu : uB < r ∧ uB ≠ m ∧ uB ≠ cb := by have := HNN.out; have := HN9.out; omega
      have hGt : tB < r ∧ tB ≠ m ∧ tB ≠ cb := by have := HNN.out; have := HN9.out; omega
      have hGa : pa < r ∧ pa ≠ m ∧ pa ≠ cb ∧ pa ≠ uB ∧ pa ≠ tB := by have := HNN.out; have := HN9.out; omega
      have hGp : bp < r ∧ bp ≠ m ∧ bp ≠ cb ∧ bp ≠ uB ∧ bp ≠ tB ∧ bp ≠ pa := by have := HNN.out; have := HN9.out; omega
      have hGM : bM < r ∧ bM ≠ m ∧ bM ≠ cb ∧ bM ≠ uB ∧ bM ≠ tB ∧ bM ≠ pa := by have := HNN.out; have := HN9.out; omega
      have hGk : pt < r ∧ pt ≠ m ∧ pt ≠ cb ∧ pt ≠ uB ∧ pt ≠ tB ∧ pt ≠ pa := by have := HNN.out; have := HN9.out; omega
      have hG0 : 0 < r ∧ 0 ≠ m ∧ 0 ≠ cb := by have := HNN.out; have := HN9.out; omega
      have hGw : ∀ b, b < ws → b < r ∧ b ≠ m ∧ b ≠ cb ∧ b ≠ uB ∧ b ≠ tB ∧ b ≠ pa := fun b hb => by have := HNN.out; have := HN9.out; omega
      have hGs : ∀ b, W7.heap.size ≤ b ∧ b < pa → b < r ∧ b ≠ m ∧ b ≠ cb ∧ b ≠ uB ∧ b ≠ tB ∧ b ≠ pa := fun b hb => by have := HNN.out; have := HN9.out; omega
      clear hw0 hR9 hP9 hA9 Hid8 Hch8 HGW
      have hn122 : n0 ≤ 122 := by omega
      have hT0b : -9223372036854775808 ≤ (t0 : Int) ∧ (t0 : Int) ≤ 9223372036854775807 := by have := HX.out.1.top; omega
      clear hn0 hll htb hchl hlc
      have HT0b := hid hT0b
      have HPU := hid hPU
      have HGu := hid hGu
      have HGt := hid hGt
      have HGa := hid hGa
      have HGp := hid hGp
      have HGM := hid hGM
      have HGk := hid hGk
      have HG0 := hid hG0
      have HGw := hid hGw
      have HGs := hid hGs
      have HM9 := hid hM9
      have Hp9 := hid hp9
      have HB9 := hid hB9
      have HS9 := hid hS9
      have Hk9' := hid hk9'
      have Hn122 := hid hn122
      clear hT0b hPU hGu hGt hGa hGp hGM hGk hG0 hGw hGs hM9 hp9 hB9 hS9 hk9' hn122
      go_upto_block 2 with fail
      go_cut [23, 24] from 66 to 91 (fun a b wx => ∃ (S : St) (g0 : Value) (d : Nat) (q : Nat → Nat) (T : Tails) (u : V6), PUS w9 wx r m cb uB tB pa P (walkT p p.cells.toNat (t0 : Int) []) l S g0 d q T u ∧ S.r.log.length ≤ 101 ∧ d ≤ 122)
      case first =>
        go_wp2_with fail
        go_loopw [66] (fun i wr => ∃ (k : Nat) (S : St) (g0 : Value) (d : Nat) (q : Nat → Nat) (T : Tails) (u : V6), i = .int .i64 (k : Int) ∧ k ≤ turns.length ∧ k ≤ 101 ∧ Hid (PUS w9 wr r m cb uB tB pa P (walkT p p.cells.toNat (t0 : Int) []) l S g0 d q T u ∧ S.r.log.length ≤ k ∧ d ≤ 122)) (fun i _ => turns.length - (intOf i).toNat)
        case atStart => exact ⟨0, _, _, _, _, _, _, rfl, Nat.zero_le _, by omega, hid ⟨HPU.out, Nat.zero_le _, Hn122.out⟩⟩
        case round =>
          obtain ⟨k, S, g0, d, q, T, u, rfl, hk, hk1, HH⟩ := hrel
          clear HPU
          by_cases hlt : k < turns.length
          · have hlt' : (k : Int) < (turns.length : Int) := by omega
            obtain ⟨b, off, cp, e1, hKb, x0⟩ := HSC.out.getU k turns[k] (List.getElem?_eq_getElem hlt)
            injection e1 with e1 _ e2
            subst e1 e2
            have hkw := Hk9'.out.trans (HH.out.1.keeps.mono HGw.out)
            have y0 := (World.cell?_of_block (a := ⟨b, off + k, none⟩) (hkw.block b hKb)).trans x0
            have hx := HU.out turns[k] (List.getElem_mem hlt)
            generalize turns[k] = x at *
            clear x0
            by_cases h100 : k ≤ 100
            · have h60b : ¬ (k : Int) > 100 := by omega
              by_cases hev : x % 2 = 0
              · have hbev : (x % 2 == 0) = true := by simpa using hev
                by_cases hkb : k < behind.length
                · have hkb' : (k : Int) < (behind.length : Int) := by omega
                  obtain ⟨b2, off2, cp2, e1, hKb2, x0, x1⟩ := HSB.out.op (List.getElem?_eq_getElem hkb)
                  injection e1 with e1 _ e2
                  subst e1 e2
                  have z0 := (World.cell?_of_block (a := ⟨b2, off2 + k * 2, none⟩) (hkw.block b2 hKb2)).trans x0
                  have z1 := (World.cell?_of_block (a := ⟨b2, off2 + k * 2 + 1, none⟩) (hkw.block b2 hKb2)).trans x1
                  have hwf := HOB.out behind[k] (List.getElem_mem hkb)
                  generalize behind[k] = y at *
                  have hcall := padd_call HX.out.1 HX.out.2.1 HH.out.1.pw y.t y.w hwf.1 hwf.2 (HT.out.keep hkw HNN.out.2.2.2.2.2.2.2) (HM9.out.keep HH.out.1.keeps HGM.out) (Hp9.out.keep HH.out.1.keeps HGp.out) HNE.out
                  have Hcall := hid hcall
                  have Hkw := hid hkw
                  clear hcall hkw
                  clear hwf x0 x1 hev
                  go_wp2_with fail
                  refine Hcall.out.mono ?_
                  rintro e w' ⟨rfl, μ', q', T', u', hPW', hKe, hch, hch2, hk'⟩
                  have hPU' := HH.out.1.add hPW' hKe hk' HGu.out HGt.out HGa.out
                  have HN2 := hid (show PUS w9 w' r m cb uB tB pa P (walkT p p.cells.toNat (t0 : Int) []) l ⟨S.r, μ'⟩ g0 d q' T' u' ∧ (St.r ⟨S.r, μ'⟩).log.length ≤ k + 1 ∧ d ≤ 122 from ⟨hPU', by have := HH.out.2.1; show S.r.log.length ≤ k + 1; omega, HH.out.2.2⟩)
                  clear hPW' hKe hch hch2 hk' hPU' y0 z0 z1
                  go_wp2_with fail
                  go_roundw
                  case rel => exact ⟨k + 1, _, g0, d, q', T', u', by go_num, by omega, by omega, HN2⟩
                  case measure => simp [intOf]; omega
                · have hkb' : ¬ (k : Int) < (behind.length : Int) := by omega
                  clear hev hkw
                  have hst := HH.out.1.step Hpw.out HT0b.out Hnc.out (by have := Hn9.out; omega) (HT.out.keep (Hk9'.out.trans (HH.out.1.keeps.mono HGw.out)) HNN.out.2.2.2.2.2.2.2) HG0.out (Hp9.out.keep HH.out.1.keeps HGp.out) (HB9.out.keep HH.out.1.keeps HGk.out) ⟨HGp.out.1, HGp.out.2.1, HGp.out.2.2.1⟩ ⟨HGk.out.1, HGk.out.2.1, HGk.out.2.2.1⟩ HGu.out HGt.out HGa.out (by have := HH.out.2.1; omega)
                  have Hst := hid hst
                  clear hst
                  go_wp2_with fail
                  refine Hst.out.mono ?_
                  rintro e w' ⟨S', g', d', rfl, hPU', hdd, hl', hd', ho'⟩
                  have HN2 := hid (show PUS w9 w' r m cb uB tB pa P (walkT p p.cells.toNat (t0 : Int) []) l S' g' d' q T u ∧ S'.r.log.length ≤ k + 1 ∧ d' ≤ 122 from ⟨hPU', by have := HH.out.2.1; omega, by have := HH.out.2.2; omega⟩)
                  clear hPU' hdd hl' hd' ho' y0 Hst
                  go_wp2_with fail
                  go_roundw
                  case rel => exact ⟨k + 1, S', g', d', q, T, u, by go_num, by omega, by omega, HN2⟩
                  case measure => simp [intOf]; omega
              · have hbev : (x % 2 == 0) = false := by simpa using hev
                clear hev hkw
                have hst := HH.out.1.step Hpw.out HT0b.out Hnc.out (by have := Hn9.out; omega) (HT.out.keep (Hk9'.out.trans (HH.out.1.keeps.mono HGw.out)) HNN.out.2.2.2.2.2.2.2) HG0.out (Hp9.out.keep HH.out.1.keeps HGp.out) (HB9.out.keep HH.out.1.keeps HGk.out) ⟨HGp.out.1, HGp.out.2.1, HGp.out.2.2.1⟩ ⟨HGk.out.1, HGk.out.2.1, HGk.out.2.2.1⟩ HGu.out HGt.out HGa.out (by have := HH.out.2.1; omega)
                have Hst := hid hst
                clear hst
                go_wp2_with fail
                refine Hst.out.mono ?_
                rintro e w' ⟨S', g', d', rfl, hPU', hdd, hl', hd', ho'⟩
                have HN2 := hid (show PUS w9 w' r m cb uB tB pa P (walkT p p.cells.toNat (t0 : Int) []) l S' g' d' q T u ∧ S'.r.log.length ≤ k + 1 ∧ d' ≤ 122 from ⟨hPU', by have := HH.out.2.1; omega, by have := HH.out.2.2; omega⟩)
                clear hPU' hdd hl' hd' ho' y0 Hst
                go_wp2_with fail
                go_roundw
                case rel => exact ⟨k + 1, S', g', d', q, T, u, by go_num, by omega, by omega, HN2⟩
                case measure => simp [intOf]; omega
            · have h60b : (k : Int) > 100 := by omega
              clear hkw
              go_wp2_with fail
              go_meet
              case rel => exact ⟨S, g0, d, q, T, u, HH.out.1, by have := HH.out.2.1; omega, HH.out.2.2⟩
          · have hlt' : ¬ (k : Int) < (turns.length : Int) := by omega
            go_wp2_with fail
            go_meet
            case rel => exact ⟨S, g0, d, q, T, u, HH.out.1, by have := HH.out.2.1; omega, HH.out.2.2⟩
      case rest =>
        obtain ⟨S1, g1, d1, q1, T1, u1, HH1⟩ := hcut
        have HH1 := hid HH1
        clear HPU HSB HOB HSC HU
        go_upto_block 4 with fail
        go_cut [92] from 93 to 97 (fun a wx => ∃ (S : St) (g0 : Value) (d : Nat), PUS w9 wx r m cb uB tB pa P (walkT p p.cells.toNat (t0 : Int) []) l S g0 d q1 T1 u1 ∧ S.r.over = true)
        case first =>
          go_wp2_with fail
          go_loopw [92] (fun i wr => ∃ (k : Nat) (S : St) (g0 : Value) (d : Nat), i = .int .i64 (k : Int) ∧ k ≤ 3000 ∧ Hid (PUS w9 wr r m cb uB tB pa P (walkT p p.cells.toNat (t0 : Int) []) l S g0 d q1 T1 u1 ∧ S.r.log.length ≤ 101 + k ∧ (S.r.over = true ∨ d + k ≤ 122))) (fun i _ => 3000 - (intOf i).toNat)
          case atStart => exact ⟨0, S1, g1, d1, rfl, Nat.zero_le _, hid ⟨HH1.out.1, HH1.out.2.1, Or.inr HH1.out.2.2⟩⟩
          case round =>
            obtain ⟨k, S, g0, d, rfl, hk, HH⟩ := hrel
            clear HH1
            by_cases hlt : k < 3000
            · have hlt' : (k : Int) < 3000 := by omega
              have hst := HH.out.1.step Hpw.out HT0b.out Hnc.out (by have := Hn9.out; omega) (HT.out.keep (Hk9'.out.trans (HH.out.1.keeps.mono HGw.out)) HNN.out.2.2.2.2.2.2.2) HG0.out (Hp9.out.keep HH.out.1.keeps HGp.out) (HB9.out.keep HH.out.1.keeps HGk.out) ⟨HGp.out.1, HGp.out.2.1, HGp.out.2.2.1⟩ ⟨HGk.out.1, HGk.out.2.1, HGk.out.2.2.1⟩ HGu.out HGt.out HGa.out (by have := HH.out.2.1; omega)
              have Hst := hid hst
              clear hst
              go_wp2_with fail
              refine Hst.out.mono ?_
              rintro e w' ⟨S', g', d', rfl, hPU', hdd, hl', hd', ho'⟩
              have hd4 : S'.r.over = true ∨ d' + (k + 1) ≤ 122 := by
                rcases hdd with h | h
                · rcases HH.out.2.2 with h2 | h2
                  · exact Or.inl (ho' h2)
                  · exact Or.inr (by omega)
                · exact Or.inl h
              have HN2 := hid (show PUS w9 w' r m cb uB tB pa P (walkT p p.cells.toNat (t0 : Int) []) l S' g' d' q1 T1 u1 ∧ S'.r.log.length ≤ 101 + (k + 1) from ⟨hPU', by have := HH.out.2.1; omega⟩)
              clear hPU' hdd hl' hd' ho' Hst
              cases hov : S'.r.over with
              | true =>
                have Hov := hid hov
                clear hov
                clear hd4
                go_wp2_with fail
                go_meet
                case rel => exact ⟨S', g', d', HN2.out.1, Hov.out⟩
              | false =>
                rw [hov] at hd4
                have hd5 : d' + (k + 1) ≤ 122 := hd4.resolve_left (by simp)
                have Hd5 := hid hd5
                clear hd5
                clear hov hd4
                go_wp2_with fail
                go_roundw
                case rel => exact ⟨k + 1, S', g', d', by go_num, by omega, hid ⟨HN2.out.1, HN2.out.2, Or.inr Hd5.out⟩⟩
                case measure => simp [intOf]; omega
            · have hlt' : ¬ (k : Int) < 3000 := by omega
              have hov : S.r.over = true := HH.out.2.2.resolve_right (by omega)
              have Hov := hid hov
              clear hov
              go_wp2_with fail
              go_meet
              case rel => exact ⟨S, g0, d, HH.out.1, Hov.out⟩
        case rest =>
          obtain ⟨S, g0, d, hPU, hov⟩ := hcut
          clear HH1
          have hkw := Hk9'.out.trans (hPU.keeps.mono HGw.out)
          have hTc : Tab wc := HT.out.keep hkw HNN.out.2.2.2.2.2.2.2
          have HPU := hid hPU
          have Hov := hid hov
          have Hkw := hid hkw
          have HTc := hid hTc
          clear hPU hov hkw hTc
          go_wp2_with fail
          refine (fixed09 _ HTc.out).mono ?_
          rintro e w10 ⟨rfl, hk10⟩
          obtain ⟨g, hrun, hg⟩ := HPU.out.run.run
          have hrun10 := hrun.keep hk10 HPU.out.run.lts.1 (fun b hb => own_ne hrun.log b hb)
          have hov10 := run_over hrun10
          rw [Hov.out] at hov10
          have hgot := HPU.out.got.keep hk10 HPU.out.got.lt
          have hout := (HPU.out.out Hov.out).boundU.keep hk10 (fun b hb => hb.2)
          have hwant := (HS9.out.keep HPU.out.keeps HGs.out).boundU.keep hk10 (fun b hb => hb.2)
          have hkf := Hkw.out.trans (hk10.mono fun b hb => by have := (HGw.out b hb).1; have := HPU.out.run.lts.1; omega)
          obtain ⟨oA, oc, rfl, -, -⟩ := hout.form
          have hsame := same_any (hout.mono (L := fun _ => True) fun _ _ => trivial) (hwant.mono (L := fun _ => True) fun _ _ => trivial)
          rw [decide_eq_true rfl] at hsame
          have cg0 := (hgot).cell 0
          simp only [List.getElem?_cons_zero] at cg0
          clear hgot hout hwant hrun hg hrun10 hk10 HPU HTc
          have Hov10 := hid hov10
          have Hsame := hid hsame
          have Hkf := hid hkf
          clear hov10 hsame hkf
          go_wp2_with fail
          refine Hov10.out.mono ?_
          rintro e w11 ⟨rfl, rfl⟩
          go_wp2_with fail
          refine Hsame.out.mono ?_
          rintro e w12 ⟨rfl, n, rfl⟩
          go_wp2_with fail
          exact hR'.out _ _ ⟨rfl, Hkf.out.drewN n⟩
end Go.Proofs.YtbmgmjfpoepgpaaDoor
