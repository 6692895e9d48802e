/- StepPlays: the walk. -/
import Derived.Test.YtjnaibmnpajfdaaRefD
import Derived.Test.YtjnaibmnpajfdaaPlaysP
import Derived.Test.YtjnaibmnpajfdaaFamS
import Derived.Test.YtjnaibmnpajfdaaFix03
import Derived.Test.YtjnaibmnpajfdaaStepOut
import Derived.Test.YtjnaibmnpajfdaaOpenD
import Derived.Test.YtjnaibmnpajfdaaLaw
import Derived.Deep.RegionHeld3
import Derived.Deep.DrawnRows
namespace Go.Proofs.Ytjnaibmnpajfdaa
open Go.RowKit

theorem Try.infoR : (Try.prog.info? 27).map (fun i => (i.zero, i.size, i.bytes)) = some (some (.pointer none), 1, 8) := by kernel_rfl
theorem Try.infoP : (Try.prog.info? 49).map (fun i => (i.zero, i.size, i.bytes)) = some (some (.agg #[.slice none 0 0, .int .i64 0, .int .u32 0, .bool false, .int .i64 0, .int .i64 0]), 6, 56) := by kernel_rfl
def ptrs (L : List OneS) : List Value := L.map fun x => .pointer (some ⟨x.r, 0, none⟩)
def PIn.cutv (p : PIn) : Value := .slice p.A (min p.l.length 60) p.cap
/-- the programs as they begin -/
def vals0 (ps : List PIn) : List Value := ps.flatMap fun p => [p.cutv, .int .i64 0, .int .u32 0, .bool false, .int .i64 0, .int .i64 0]
theorem vals0_len : ∀ ps : List PIn, (vals0 ps).length = ps.length * 6
  | [] => rfl
  | p :: ps => by
    have := vals0_len ps
    unfold vals0 at this ⊢
    rw [List.flatMap_cons, List.length_append, this, List.length_cons]
    simp; omega
theorem vals0_snoc (ps : List PIn) (p : PIn) : vals0 (ps ++ [p]) = vals0 ps ++ [p.cutv, .int .i64 0, .int .u32 0, .bool false, .int .i64 0, .int .i64 0] := by
  unfold vals0; rw [List.flatMap_append]; simp

theorem vals0_get : ∀ (ps : List PIn) (j : Nat) (q : PIn), ps[j]? = some q → ∀ t, t < 6 → (vals0 ps)[j * 6 + t]? = (ProgM.vals ⟨q.l.take 60, 0, 0, false, 0, 0⟩ (.slice q.A (q.l.take 60).length q.cap))[t]?
  | [], j, q, h, t, ht => by simp at h
  | p :: ps, 0, q, h, t, ht => by
    simp at h; subst h
    have e : (p.l.take 60).length = min p.l.length 60 := by rw [List.length_take, Nat.min_comm]
    rw [e, Nat.zero_mul, Nat.zero_add]
    show ([p.cutv, .int .i64 0, .int .u32 0, .bool false, .int .i64 0, .int .i64 0] ++ vals0 ps)[t]? = _
    rw [List.getElem?_append_left (by simpa using ht)]
    rfl
  | p :: ps, j + 1, q, h, t, ht => by
    have h' : ps[j]? = some q := by simpa using h
    have ih := vals0_get ps j q h' t ht
    show ([p.cutv, .int .i64 0, .int .u32 0, .bool false, .int .i64 0, .int .i64 0] ++ vals0 ps)[(j + 1) * 6 + t]? = _
    rw [List.getElem?_append_right (by simp; omega)]
    rw [← ih]
    congr 1
    simp; omega

theorem ProgM.step_len (p : ProgM) (cells : List Int) : (p.step cells).2.length = cells.length := by
  unfold ProgM.step
  split
  · rfl
  · split
    · rfl
    · split
      · rfl
      · split
        · rfl
        · split
          · rfl
          · simp

theorem SlAt.bound {w : World} {K : Nat → Prop} {v : Value} {n : Nat} {xs : List Value} (h : SlAt w K 1 v n xs) : SlAt w (fun b => K b ∧ b < w.heap.size) 1 v n xs := by
  obtain ⟨A, cap, h1, h2, h3, h4, h5⟩ := h
  refine ⟨A, cap, h1, h2, h3, h4, fun hn => ?_⟩
  obtain ⟨b, off, e, hb, hc⟩ := h5 hn
  have h0 := hc 0 (xs[0]'(by omega)) (List.getElem?_eq_getElem _)
  exact ⟨b, off, e, ⟨hb, by have := World.block_lt_of_cell? _ _ h0; exact this⟩, hc⟩

theorem get6_0 (cur : List Value) (i : Nat) (v0 v1 v2 v3 v4 v5 : Value) (h : i + 5 < cur.length) : ((((((cur.set i v0).set (i + 1) v1).set (i + 2) v2).set (i + 3) v3).set (i + 4) v4).set (i + 5) v5)[i]? = some v0 := by
  simp [List.getElem?_set]; omega
theorem get6_1 (cur : List Value) (i : Nat) (v0 v1 v2 v3 v4 v5 : Value) (h : i + 5 < cur.length) : ((((((cur.set i v0).set (i + 1) v1).set (i + 2) v2).set (i + 3) v3).set (i + 4) v4).set (i + 5) v5)[i + 1]? = some v1 := by
  simp [List.getElem?_set]; omega
theorem get6_2 (cur : List Value) (i : Nat) (v0 v1 v2 v3 v4 v5 : Value) (h : i + 5 < cur.length) : ((((((cur.set i v0).set (i + 1) v1).set (i + 2) v2).set (i + 3) v3).set (i + 4) v4).set (i + 5) v5)[i + 2]? = some v2 := by
  simp [List.getElem?_set]; omega
theorem get6_3 (cur : List Value) (i : Nat) (v0 v1 v2 v3 v4 v5 : Value) (h : i + 5 < cur.length) : ((((((cur.set i v0).set (i + 1) v1).set (i + 2) v2).set (i + 3) v3).set (i + 4) v4).set (i + 5) v5)[i + 3]? = some v3 := by
  simp [List.getElem?_set]; omega
theorem get6_4 (cur : List Value) (i : Nat) (v0 v1 v2 v3 v4 v5 : Value) (h : i + 5 < cur.length) : ((((((cur.set i v0).set (i + 1) v1).set (i + 2) v2).set (i + 3) v3).set (i + 4) v4).set (i + 5) v5)[i + 4]? = some v4 := by
  simp [List.getElem?_set]; omega
theorem get6_5 (cur : List Value) (i : Nat) (v0 v1 v2 v3 v4 v5 : Value) (h : i + 5 < cur.length) : ((((((cur.set i v0).set (i + 1) v1).set (i + 2) v2).set (i + 3) v3).set (i + 4) v4).set (i + 5) v5)[i + 5]? = some v5 := by
  simp [List.getElem?_set]; omega
theorem get6_ne (cur : List Value) (i : Nat) (v0 v1 v2 v3 v4 v5 : Value) (m : Nat) (h : m < i ∨ i + 5 < m) : ((((((cur.set i v0).set (i + 1) v1).set (i + 2) v2).set (i + 3) v3).set (i + 4) v4).set (i + 5) v5)[m]? = cur[m]? := by
  rw [List.getElem?_set_ne (by omega), List.getElem?_set_ne (by omega), List.getElem?_set_ne (by omega), List.getElem?_set_ne (by omega), List.getElem?_set_ne (by omega), List.getElem?_set_ne (by omega)]

theorem SlAt.getP {α : Type} {f : α → Value} {w : World} {K : Nat → Prop} {v : Value} {xs : List α} (h : SlAt w K 1 v xs.length (xs.map f)) (i : Nat) (x : α) (hi : xs[i]? = some x) :
    ∃ b off cap, v = .slice (some ⟨b, off, none⟩) xs.length cap ∧ K b ∧ w.cell? ⟨b, off + i, none⟩ = some (f x) := by
  obtain ⟨A, cap, h1, h2, h3, h4, h5⟩ := h
  have hlt := (List.getElem?_eq_some_iff.1 hi).1
  obtain ⟨b, off, e, hb, hc⟩ := h5 (by omega)
  exact ⟨b, off, cap, by rw [h1, e], hb, hc i (f x) (by rw [List.getElem?_map, hi]; rfl)⟩
theorem grownK {w w' : World} {row : Option Nat} (h : w.grownBy w' row) : Keeps (fun b => b < w.heap.size ∧ some b ≠ row) w w' := ⟨h.os, h.tape, h.output, h.size, fun b hb => h.block b hb.1 hb.2⟩

set_option maxRecDepth 100000 in
set_option maxHeartbeats 16000000 in
theorem plays_walk (n : Nat) (hn : n ≤ 255) (A C : Option Addr) (ca cc : Nat) (l : List PIn) (turns : List Int) (w : World) (hU : ∀ x ∈ turns, 0 ≤ x ∧ x ≤ 255) (hok : ∀ p ∈ l, p.ok w)
    (hsa : SlAt w (· < w.heap.size) 1 (.slice A l.length ca) l.length (l.map PIn.v)) (hsc : SlAt w (· < w.heap.size) 1 (.slice C turns.length cc) turns.length (turns.map (Value.int .u8))) :
    Calls Try.prog 5 #[.int .u8 n, .slice A l.length ca, .slice C turns.length cc] w fun e w' => e = .returned (.bool true) ∧ Keeps (· < w.heap.size) w w' := by
  obtain ⟨A0, cap0, he, hca1, hca2⟩ := hsa.form
  injection he with e1 _ e3
  subst e1 e3
  obtain ⟨A0, cap0, he, hcc1, hcc2⟩ := hsc.form
  injection he with e1 _ e3
  subst e1 e3
  unfold maxLen at hca2 hcc2
  have hmk := fun w => run_make_row' (P := Try.prog) 45 36 (.int .u32 0) 4 Try.underlying45 Try.infoU rfl .i64 .i64 (1 + n) (by omega) (by omega) w
  have ec : ((1 + n : Nat) : Int) = 1 + (n : Int) := by omega
  rw [ec] at hmk
  clear ec
  have Hsa := hid hsa
  have Hsc := hid hsc
  have HU := hid hU
  have Hok := hid hok
  clear hsa hsc hU hok
  refine calls_hide fun R' hR' => ?_
  go_enter Try.func5, Try.ntmps5
  go_wp2_with fail
  refine (mem_newI w _ (by omega) (by omega)).mono ?_
  rintro e w1 ⟨rfl, hm1, hk1, hz1⟩
  have hz1' : w.heap.size + 1 < w1.heap.size := by omega
  rw [show (1 + (n : Int)).toNat = 1 + n by omega] at hm1
  clear hz1
  generalize hws : w.heap.size = ws at *
  have Hm1 := hid hm1
  have Hk1 := hid hk1
  have Hws := hid hws
  clear hm1 hk1 hws
  go_wp2_with fail
  refine (fixed03 w1).mono ?_
  rintro e w2 ⟨rfl, hk2⟩
  have hm2 := Hm1.out.keep hk2 Hm1.out.obj.lt Hm1.out.cells.lt
  have hkk2 := Hk1.out.trans (hk2.mono fun b hb => by omega)
  have hz2 := hk2.size
  have Hm2 := hid hm2
  have Hkk2 := hid hkk2
  clear hm2 hkk2
  clear hk2 Hm1 Hk1
  go_wp2_with fail
  have hb0 := made_blk w2 (.int .u32 0) (1 + n) 36
  refine wp_gen (fun W => Blk W w2.heap.size ((List.replicate (1 + n) (0 : Int)).map (Value.int .u32)) ∧ MemAt W (ws + 1) ws ⟨List.replicate (1 + n) 0, 0, 0⟩ ∧ Keeps (· < ws) w W) ⟨by rw [List.map_replicate]; exact hb0, ?_, ?_⟩ ?_
  · exact Hm2.out.keep ((Keeps.refl (· < w2.heap.size) w2).alloc (fun b hb => hb) _) Hm2.out.obj.lt Hm2.out.cells.lt
  · exact Hkk2.out.alloc (fun b hb => by omega) _
  have hml2 := Hm2.out.obj.lt
  clear Hm2 Hkk2 hmk hb0
  rintro W3 ⟨hBc, hm3, hkk3⟩
  have hcl := hBc.lt
  generalize hcB : w2.heap.size = cB at *
  clear hcB
  have hF0 : FamS W3 (fun b => b < ws ∨ b = cB) (ws + 1) ws ⟨List.replicate (1 + n) 0, 0, 0⟩ [] := FamS.nil hm3 (by omega) (by omega) (fun b hb => by omega)
  clear hm3
  have HF0 := hid hF0
  have HBc := hid hBc
  have Hkk3 := hid hkk3
  clear hF0 hBc hkk3
  go_loopw [10, 11, 36] (fun rv0 wv0 i wr => ∃ (k : Nat) (K : Nat → Prop) (L : List OneS) (rv wv : Value), i = .int .i64 k ∧ rv = rv0 ∧ wv = wv0 ∧ k ≤ l.length ∧ k ≤ 4 ∧ L.length = k ∧ wr.ownsRow 0 27 1 rv k (ptrs L) ∧ wr.ownsRow 0 49 6 wv k (vals0 (l.take k)) ∧
    FamS wr K (ws + 1) ws ⟨List.replicate (1 + n) 0, 0, 0⟩ L ∧ (∀ b, b < ws → K b) ∧ K cB ∧ (∀ b, rv.ownBlock = some b → K b ∧ ws ≤ b ∧ b ≠ cB) ∧ (∀ b, wv.ownBlock = some b → K b ∧ ws ≤ b ∧ b ≠ cB ∧ rv.ownBlock ≠ some b) ∧
    Blk wr cB ((List.replicate (1 + n) (0 : Int)).map (Value.int .u32)) ∧ Keeps (· < ws) w wr ∧ (∀ x ∈ L, x.s = run0)) (fun _ _ i _ => l.length - (intOf i).toNat)
  case atStart => exact ⟨0, _, [], _, _, rfl, rfl, rfl, Nat.zero_le _, by decide, rfl, ⟨rfl, Or.inl ⟨rfl, rfl⟩⟩, ⟨rfl, Or.inl ⟨rfl, rfl⟩⟩, HF0.out, fun b hb => Or.inl hb, Or.inr rfl, fun b hb => (by cases hb), fun b hb => (by cases hb), HBc.out, Hkk3.out, fun x hx => (by cases hx)⟩
  case round =>
    obtain ⟨k, K, L, rv, wv, rfl, rfl, rfl, hk, hk4, hL, hrow, hwrow, hF, hKw, hKc, hrB, hwB, hBc, hkk, hrun⟩ := hrel
    clear HF0 HBc Hkk3
    by_cases hlt : k < l.length
    · obtain ⟨b, off, cp, e1, hKb, x0⟩ := Hsa.out.getP k l[k] (List.getElem?_eq_getElem hlt)
      injection e1 with e1 _ e2
      subst e1 e2
      have y0 := (World.cell?_of_block (a := ⟨b, off + k, none⟩) (hkk.block b hKb)).trans x0
      have hop := Hok.out l[k] (List.getElem_mem hlt)
      have htk : l.take (k + 1) = l.take k ++ [l[k]] := List.take_succ_eq_append_getElem hlt
      have hv0 := vals0_snoc (l.take k) l[k]
      rw [← htk] at hv0
      generalize l[k] = p at *
      obtain ⟨pA, pcap, pl⟩ := p
      obtain ⟨A9, cp9, e9, h91, h92⟩ := hop.2.form
      unfold PIn.v at y0 e9
      unfold PIn.cutv at hv0
      simp only at y0 e9 h91 h92 hv0
      injection e9 with e8 _ e9
      subst e8 e9
      have h92' := h92
      unfold maxLen at h92'
      have Hrow := hid hrow
      have Hwrow := hid hwrow
      have HF := hid hF
      have HKw := hid hKw
      have HKc := hid hKc
      have HrB := hid hrB
      have HwB := hid hwB
      have HBc := hid hBc
      have Hkk := hid hkk
      have Hrun := hid hrun
      have Hop := hid hop
      have Hv0 := hid hv0
      have H91 := hid h91
      have H92 := hid h92
      clear hrow hwrow hF hKw hKc hrB hwB hBc hkk hrun hop hv0 h91 h92
      clear x0 htk
      have hlt' : (k : Int) < (l.length : Int) := by omega
      by_cases h4 : 4 ≤ k
      · have h4' : (4 : Int) ≤ (k : Int) := by omega
        have hKc1 := HKc.out
        have hrow := Hrow.out
        have hwrow := Hwrow.out
        by_cases hz : k = 0
        · have hz' : rv = .slice none 0 0 ∨ ∃ g cap, rv = .slice (some ⟨g, 0, none⟩) 0 cap := by
            rcases hrow.2 with ⟨h1, _⟩ | ⟨g, cap, _, h1, _⟩
            · exact Or.inl h1
            · exact Or.inr ⟨g, cap, by rw [h1, hz]⟩
          clear hrow hwrow
          rcases hz' with h | ⟨g, cap, h⟩
          · rw [h]
            go_wp2_with fail
            all_goals exact hR'.out _ _ ⟨rfl, Hkk.out⟩
          · rw [h]
            go_wp2_with fail
            all_goals exact hR'.out _ _ ⟨rfl, Hkk.out⟩
        · rcases hrow.2 with ⟨_, h1⟩ | ⟨rB, rcap, curR, hrv, _, hrh, hr1, hr2, hr3, hrt⟩
          · exact absurd h1 hz
          rcases hwrow.2 with ⟨_, h1⟩ | ⟨wB, wcap, curW, hwv, _, hwh, hw1, hw2, hw3, hwt⟩
          · exact absurd h1 hz
          have hbR : Blk wr rB curR.toList := ⟨_, hrh⟩
          have hbW : Blk wr wB curW.toList := ⟨_, hwh⟩
          have hKr := (HrB.out rB (by rw [hrv]; rfl)).1
          have hKwB := (HwB.out wB (by rw [hwv]; rfl)).1
          have hrw : rB ≠ wB := fun e => (HwB.out wB (by rw [hwv]; rfl)).2.2.2 (by rw [hrv, ← e]; rfl)
          have hkle : k ≤ l.length := by omega
          have hwBs : ws ≤ wB := (HwB.out wB (by rw [hwv]; rfl)).2.1
          have HwBs := hid hwBs
          clear hwBs
          have hcurR : ∀ (j : Nat) (x : OneS), L[j]? = some x → curR.toList[j]? = some (.pointer (some ⟨x.r, 0, none⟩)) := by
            intro j x hx
            have h1 : (curR.toList.take (k * 1))[j]? = some (.pointer (some ⟨x.r, 0, none⟩)) := by
              rw [hrt]; unfold ptrs; rw [List.getElem?_map, hx]; rfl
            have hj : j < k * 1 := by have := (List.getElem?_eq_some_iff.1 hx).1; omega
            rwa [List.getElem?_take_of_lt hj] at h1
          have hcurW : ∀ (j : Nat) (q : PIn), l[j]? = some q → j < k → ∀ t, t < 6 → curW.toList[j * 6 + t]? = (ProgM.vals ⟨q.l.take 60, 0, 0, false, 0, 0⟩ (.slice q.A (q.l.take 60).length q.cap))[t]? := by
            intro j q hq hj t ht
            have h1 := vals0_get (l.take k) j q (by rw [List.getElem?_take_of_lt hj]; exact hq) t ht
            rw [← hwt] at h1
            rwa [List.getElem?_take_of_lt (by omega)] at h1
          have hU0 : 1 + n ≤ 65536 := by omega
          have hsl0 := SlAt.of_blk (K := fun b => K b ∧ b ≠ wB) HBc.out ⟨hKc1, fun e => (HwB.out wB (by rw [hwv]; rfl)).2.2.1 e.symm⟩ (by rw [List.length_map, List.length_replicate]; unfold maxLen; omega)
          rw [List.length_map, List.length_replicate] at hsl0
          have hrs : ∃ rs : List Nat, rs = L.map (·.r) := ⟨_, rfl⟩
          obtain ⟨rs, hrs⟩ := hrs
          have hLs : L.length = rs.length := by rw [hrs, List.length_map]
          have hrR : ∀ (j r : Nat), rs[j]? = some r → curR.toList[j]? = some (.pointer (some ⟨r, 0, none⟩)) := by
            intro j r hj
            rw [hrs, List.getElem?_map] at hj
            obtain ⟨x, hx, rfl⟩ := Option.map_eq_some_iff.1 hj
            exact hcurR j x hx
          have hal0 : ∀ (j : Nat) (x : OneS) (q : PIn), L[j]? = some x → l[j]? = some q → Alike (q.l.take 60) ⟨x.s, ⟨List.replicate (1 + n) 0, 0, 0⟩⟩ ⟨q.l.take 60, 0, 0, false, 0, 0⟩ := by
            intro j x q hx hq
            rw [Hrun.out x (List.mem_of_getElem? hx)]
            exact Alike.start _ _ _ _ _
          have hkk7 := Hkk.out
          have hFF := HF.out
          have hKww := HKw.out
          rw [hrv, hwv]
          have hk4b : k ≤ 4 := by omega
          have hLk : L.length = k := by omega
          clear hrow hwrow Hrow Hwrow HrB HwB hrh hwh hrt hwt hcurR
          generalize hkn0 : k = kn at *
          have hrsn : rs.length = kn := by omega
          have hcurW6 : kn * 6 ≤ curW.toList.length := by
            rcases Nat.eq_zero_or_pos kn with h | h
            · omega
            · have := hw3
              have hcw : curW.toList.length = wcap * 6 := by simpa using hw3
              omega
          have HbR := hid hbR
          have HbW := hid hbW
          have HKr := hid hKr
          have HKwB := hid hKwB
          have Hrw := hid hrw
          have HcurW := hid hcurW
          have Hsl0 := hid hsl0
          have HrR := hid hrR
          have Hal0 := hid hal0
          have Hkk7 := hid hkk7
          have HFF := hid hFF
          have HKww := hid hKww
          have Hrs := hid hrs
          have HcurW6 := hid hcurW6
          clear hbR hbW hKr hKwB hrw hcurW hsl0 hrR hal0 hkk7 hFF hKww hrs hcurW6
          clear Hkk HF HKw Hrun HBc HKc hKc1 hrv hwv hw2 hw3 hr2 hr3
          have hkpos : 0 < kn := by omega
          have hkI : (0 : Int) < (kn : Int) := by omega
          have hkb : ((kn : Int) == 0) = false := by simp; omega
          go_wp2_with fail
          go_loopw [9, 60] (fun cv i w8 => ∃ (t : Nat) (K8 : Nat → Prop) (L8 : List OneS) (ps : List ProgM) (μ : MemS) (cur : List Value) (A8 : Option Addr) (cp8 : Nat), i = .int .i64 t ∧ t ≤ turns.length ∧ L8.map (·.r) = rs ∧ ps.length = kn ∧ cv = .slice A8 (1 + n) cp8 ∧ μ.cells.length = 1 + n ∧
            FamS w8 K8 (ws + 1) ws μ L8 ∧ (∀ b, b < ws → K8 b) ∧ K8 rB ∧ K8 wB ∧ SlAt w8 (fun b => K8 b ∧ b ≠ wB) 1 (.slice A8 (1 + n) cp8) (1 + n) (μ.cells.map (Value.int .u32)) ∧ Blk w8 rB curR.toList ∧ Blk w8 wB cur ∧ kn * 6 ≤ cur.length ∧
            (∀ (j : Nat) (p : ProgM) (q : PIn), ps[j]? = some p → l[j]? = some q → ∀ t, t < 6 → cur[j * 6 + t]? = (ProgM.vals p (.slice q.A (q.l.take 60).length q.cap))[t]?) ∧
            (∀ (j : Nat) (x : OneS) (p : ProgM) (q : PIn), L8[j]? = some x → ps[j]? = some p → l[j]? = some q → Alike (q.l.take 60) ⟨x.s, μ⟩ p) ∧ Keeps (· < ws) w w8) (fun _ i _ => turns.length - (intOf i).toNat)
          case atStart => 
            refine ⟨0, K, L, (l.take kn).map fun q => ⟨q.l.take 60, 0, 0, false, 0, 0⟩, _, curW.toList, some ⟨cB, 0, none⟩, 1 + n, rfl, Nat.zero_le _, Hrs.out.symm, by rw [List.length_map, List.length_take]; omega, by first | rfl | (congr 1), List.length_replicate .., HFF.out, HKww.out, HKr.out, HKwB.out, Hsl0.out, HbR.out, HbW.out, HcurW6.out, ?_, ?_, Hkk7.out⟩
            · intro j p q hp hq t ht
              rw [List.getElem?_map] at hp
              obtain ⟨q', hq', rfl⟩ := Option.map_eq_some_iff.1 hp
              have hj : j < kn := by have := (List.getElem?_eq_some_iff.1 hq').1; rw [List.length_take] at this; omega
              rw [List.getElem?_take_of_lt hj, hq] at hq'
              injection hq' with hq'
              subst hq'
              exact HcurW.out j q hq hj t ht
            · intro j x p q hx hp hq
              rw [List.getElem?_map] at hp
              obtain ⟨q', hq', rfl⟩ := Option.map_eq_some_iff.1 hp
              have hj : j < kn := by have := (List.getElem?_eq_some_iff.1 hq').1; rw [List.length_take] at this; omega
              rw [List.getElem?_take_of_lt hj, hq] at hq'
              injection hq' with hq'
              subst hq'
              exact Hal0.out j x q hx hq
          case round =>
            rename World => w8
            obtain ⟨t, K8, L8, ps, μ, cur, A8, cp8, rfl, ht, hLr, hpl, rfl, hμl, hF8, hKw8, hKr8, hKb8, hsl8, hbR8, hbW8, hcl8, hcw8, hal8, hkk8⟩ := hrel
            clear HFF HKww HKr HKwB Hsl0 HbR HbW HcurW6 HcurW Hal0 Hkk7 Hrs
            by_cases htl : t < turns.length
            · obtain ⟨b9, off9, cp9, e1, hKb9, x0⟩ := Hsc.out.getP t turns[t] (List.getElem?_eq_getElem htl)
              injection e1 with e1 _ e2
              subst e1 e2
              have y0 := (World.cell?_of_block (a := ⟨b9, off9 + t, none⟩) (hkk8.block b9 hKb9)).trans x0
              have hux := HU.out turns[t] (List.getElem_mem htl)
              generalize turns[t] = tv at *
              obtain ⟨ux0, ux1⟩ := hux
              have htl' : (t : Int) < (turns.length : Int) := by omega
              clear x0
              have HF8 := hid hF8
              have HKw8 := hid hKw8
              have HKr8 := hid hKr8
              have HKb8 := hid hKb8
              have Hsl8 := hid hsl8
              have HbR8 := hid hbR8
              have HbW8 := hid hbW8
              have Hcw8 := hid hcw8
              have Hal8 := hid hal8
              have Hkk8 := hid hkk8
              have HLr := hid hLr
              clear hF8 hKw8 hKr8 hKb8 hsl8 hbR8 hbW8 hcw8 hal8 hkk8 hLr
              by_cases h250 : 250 < t
              · have h250' : (250 : Int) < (t : Int) := by omega
                go_wp2_with fail
                exact hR'.out _ _ ⟨rfl, Hkk8.out⟩
              · have h250' : (t : Int) ≤ 250 := by omega
                obtain ⟨j, hj⟩ : ∃ j : Nat, tv % (kn : Int) = (j : Int) := ⟨(tv % (kn : Int)).toNat, by rw [Int.toNat_of_nonneg (Int.emod_nonneg _ (by omega))]⟩
                have hjk : j < kn := by have := Int.emod_lt_of_pos tv hkI; omega
                obtain ⟨x, hx⟩ : ∃ x, L8[j]? = some x := ⟨_, List.getElem?_eq_getElem (by have h9 : L8.length = kn := (by rw [← hrsn, ← HLr.out, List.length_map]); omega)⟩
                obtain ⟨p, hp⟩ : ∃ p, ps[j]? = some p := ⟨_, List.getElem?_eq_getElem (by omega)⟩
                obtain ⟨q, hq⟩ : ∃ q, l[j]? = some q := ⟨_, List.getElem?_eq_getElem (by omega)⟩
                have hcell := Hcw8.out j p q hp hq
                have hal := Hal8.out j x p q hx hp hq
                have hokq := Hok.out q (List.mem_of_getElem? hq)
                have hslq : SlAt w8 (· < ws) 3 (.slice q.A (q.l.take 60).length q.cap) (q.l.take 60).length ((q.l.take 60).flatMap InsM.cells) := by
                  have h1 := hokq.2
                  unfold PIn.v at h1
                  have h2 := (h1.cut).keep (K := fun b => b < w.heap.size) (L := fun b => b < ws) Hkk8.out (fun b hb => by have h3 := Hws.out; have hb' : b < w.heap.size := hb; omega)
                  rw [show min q.l.length 60 = (q.l.take 60).length by rw [List.length_take, Nat.min_comm]] at h2
                  exact h2.mono (fun b hb => by have h3 := Hws.out; have hb' : b < w.heap.size := hb; omega)
                have hwfq : ∀ a ∈ q.l.take 60, a.wf := fun a ha => hokq.1 a (List.mem_of_mem_take ha)
                have hl60 : (q.l.take 60).length ≤ 60 := by rw [List.length_take]; omega
                have hrx : rs[j]? = some x.r := by rw [← HLr.out, List.getElem?_map, hx]; rfl
                have hrc := (HbR8.out.cell j).trans (HrR.out j x.r hrx)
                generalize hql : q.l.take 60 = ql at *
                obtain ⟨pl, pat, plast, pover, perr, pmade⟩ := p
                have hple : pl = ql := hal.list
                subst hple
                have hstep := alike_any hal hl60 HF8.out.mem.range
                have hplen : ∀ u, u < 6 → j * 6 + u < cur.length := fun u hu => by omega
                have c0 := (HbW8.out.cell (j * 6)).trans (hcell 0 (by decide))
                have c1 := (HbW8.out.cell (j * 6 + 1)).trans (hcell 1 (by decide))
                have c2 := (HbW8.out.cell (j * 6 + 2)).trans (hcell 2 (by decide))
                have c3 := (HbW8.out.cell (j * 6 + 3)).trans (hcell 3 (by decide))
                have c4 := (HbW8.out.cell (j * 6 + 4)).trans (hcell 4 (by decide))
                have c5 := (HbW8.out.cell (j * 6 + 5)).trans (hcell 5 (by decide))
                simp only [ProgM.vals, List.getElem?_cons_zero, List.getElem?_cons_succ] at c0 c1 c2 c3 c4 c5
                have i1 : (j : Int) < (kn : Int) := by omega
                have hsl8' := Hsl8.out
                rw [← hμl] at hsl8'
                have hcon := pstep_call (w := w8) (K := fun b => b < ws) (KC := fun b => K8 b ∧ b ≠ wB) ⟨pl, pat, plast, pover, perr, pmade⟩ q.A q.cap (.slice A8 (1 + n) cp8) μ.cells hslq (fun b hb => HF8.out.lt b (HKw8.out b hb)) hal.le hal.last hal.made_le hwfq
                  (by rw [← hμl]; exact hsl8') (fun b hb => HF8.out.lt b hb.1) HF8.out.mem.range (by omega)
                obtain ⟨hal', hcs'⟩ := hstep
                have hlen' := ProgM.step_len ⟨pl, pat, plast, pover, perr, pmade⟩ μ.cells
                generalize hSt : (⟨x.s, μ⟩ : St).stepP (progT pl 0 0) = S' at *
                have HSt := hid hSt
                clear hSt
                generalize hps : ProgM.step ⟨pl, pat, plast, pover, perr, pmade⟩ μ.cells = pn at *
                obtain ⟨⟨pl', pat', plast', pover', perr', pmade'⟩, cs'⟩ := pn
                have hple' : pl' = pl := hal'.list
                subst hple'
                simp only at hcon hlen' hcs'
                rw [hμl] at hcon hlen'
                have hlog := hal.made
                have Hcon := hid hcon
                have Hcell := hid hcell
                have Hal := hid hal
                have Hslq := hid hslq
                have Hwfq := hid hwfq
                have Hal' := hid hal'
                have Hcs' := hid hcs'
                have Hlen' := hid hlen'
                have Hql := hid hql
                have Hps := hid hps
                have Hl60 := hid hl60
                have Hlog := hid hlog
                clear hcon hcell hal hslq hwfq hal' hcs' hlen' hql hps hl60 hlog
                clear hsl8' hokq hp
                go_wp2_with fail
                refine Hcon.out.mono ?_
                rintro e w9 ⟨vc', rfl, hsl9, hk9⟩
                obtain ⟨A9, cp9, rfl, hf91, hf92⟩ := hsl9.form
                have hF9a := HF8.out.below hk9
                have hsl9b := hsl9.bound
                have hF9 : FamS w9 (fun b => K8 b ∨ (w8.heap.size ≤ b ∧ b < w9.heap.size)) (ws + 1) ws μ L8 := by
                  refine hF9a.more ?_ ?_ ?_ ?_
                  · rintro b (e | e)
                    · exact hF9a.lt b e
                    · exact e.2
                  · rintro (e | e)
                    · exact hF9a.km e
                    · have := HF8.out.mem.obj.lt; omega
                  · rintro (e | e)
                    · exact hF9a.kc e
                    · have := HF8.out.mem.cells.lt; omega
                  · rintro i' x' hx' b hb (e | e)
                    · exact ((hF9a.all i' x' hx').fp_no b hb).1 (Or.inl e)
                    · have := (HF8.out.all i' x' hx').fp_lt b hb; omega
                have hwl8 := HbW8.out.lt
                have hsl9c : SlAt w9 (fun b => (fun b => K8 b ∨ (w8.heap.size ≤ b ∧ b < w9.heap.size)) b ∧ b ≠ wB) 1 (.slice A9 (1 + n) cp9) (1 + n) (cs'.map (Value.int .u32)) := hsl9b.mono (fun b hb => by rcases hb.1 with h | h; exact ⟨Or.inl h.1, h.2⟩; exact ⟨Or.inr ⟨h, hb.2⟩, by omega⟩)
                have hbW9 := HbW8.out.keep hk9 HbW8.out.lt
                have hbR9 := HbR8.out.keep hk9 HbR8.out.lt
                have hkk9 := Hkk8.out.trans (hk9.mono fun b hb => HF8.out.lt b (HKw8.out b hb))
                have hrl := HbR8.out.lt
                have c0 := (hbW9.cell (j * 6)).trans (Hcell.out 0 (by decide))
                have c1 := (hbW9.cell (j * 6 + 1)).trans (Hcell.out 1 (by decide))
                have c2 := (hbW9.cell (j * 6 + 2)).trans (Hcell.out 2 (by decide))
                have c3 := (hbW9.cell (j * 6 + 3)).trans (Hcell.out 3 (by decide))
                have c4 := (hbW9.cell (j * 6 + 4)).trans (Hcell.out 4 (by decide))
                have c5 := (hbW9.cell (j * 6 + 5)).trans (Hcell.out 5 (by decide))
                simp only [ProgM.vals, List.getElem?_cons_zero, List.getElem?_cons_succ] at c0 c1 c2 c3 c4 c5
                have fw := hbW9.free
                clear hsl9 hsl9b hF9a hf91
                have hslq9 := Hslq.out.keep hk9 (fun b hb => HF8.out.lt b (HKw8.out b hb))
                generalize hK9 : (fun b => K8 b ∨ (w8.heap.size ≤ b ∧ b < w9.heap.size)) = K9 at *
                have hKw9 : ∀ b, b < ws → K9 b := fun b hb => by rw [← hK9]; exact Or.inl (HKw8.out b hb)
                have hKr9 : K9 rB := by rw [← hK9]; exact Or.inl HKr8.out
                have hKb9 : K9 wB := by rw [← hK9]; exact Or.inl HKb8.out
                have hkst : ∀ W : World, Keeps (fun b => b ≠ wB) w9 W → FamS W K9 (ws + 1) ws μ L8 ∧ Blk W rB curR.toList ∧ SlAt W (fun b => b < ws) 3 (.slice q.A pl'.length q.cap) pl'.length (pl'.flatMap InsM.cells) ∧ Keeps (· < ws) w W := fun W hW =>
                  ⟨hF9.keep hW (fun e => hF9.km (e ▸ hKb9)) (fun e => hF9.kc (e ▸ hKb9)) (fun i' x' hx' b hb e => ((hF9.all i' x' hx').fp_no b hb).1 (Or.inl (e ▸ hKb9))), hbR9.keep hW Hrw.out, hslq9.keep hW (fun b hb e => by have := HwBs.out; omega), hkk9.trans (hW.mono fun b hb e => by have := HwBs.out; have hb' : b < ws := hb; omega)⟩
                clear hk9 hK9 HF8 HKw8 HKr8 HKb8 Hsl8 HbR8 HbW8 Hkk8 Hslq Hcon hF9 hbR9 hkk9 hslq9
                have HbW9 := hid hbW9
                have Hkst := hid hkst
                have HKw9 := hid hKw9
                have HKr9 := hid hKr9
                have HKb9 := hid hKb9
                have Hsl9c := hid hsl9c
                clear hbW9 hkst hKw9 hKr9 hKb9 hsl9c
                go_wp2_with fail
                refine wp_gen (fun W => (FamS W K9 (ws + 1) ws μ L8 ∧ Blk W rB curR.toList ∧ SlAt W (fun b => b < ws) 3 (.slice q.A pl'.length q.cap) pl'.length (pl'.flatMap InsM.cells) ∧ Keeps (· < ws) w W) ∧ SlAt W (fun b => K9 b ∧ b ≠ wB) 1 (.slice A9 (1 + n) cp9) (1 + n) (cs'.map (Value.int .u32)) ∧
                  Blk W wB ((((((cur.set (j * 6) (.slice q.A pl'.length q.cap)).set (j * 6 + 1) (.int .i64 pat')).set (j * 6 + 2) (.int .u32 plast')).set (j * 6 + 3) (.bool pover')).set (j * 6 + 4) (.int .i64 perr')).set (j * 6 + 5) (.int .i64 pmade'))) ⟨?_, ?_, ?_⟩ ?_
                · refine Hkst.out _ ?_
                  repeat (first | with_reducible exact Keeps.refl _ _ | with_reducible refine Keeps.setCell ?_ ?_ _)
                  all_goals (simp; done)
                · refine Hsl9c.out.keep (L := fun b => b ≠ wB) ?_ (fun b hb => hb.2)
                  repeat (first | with_reducible exact Keeps.refl _ _ | with_reducible refine Keeps.setCell ?_ ?_ _)
                  all_goals (simp; done)
                · exact (((((HbW9.out.set (j * 6) _).set (j * 6 + 1) _).set (j * 6 + 2) _).set (j * 6 + 3) _).set (j * 6 + 4) _).set (j * 6 + 5) _
                clear c0 c1 c2 c3 c4 c5 fw HbW9 Hkst Hsl9c hrc y0
                rintro W10 ⟨⟨hF, hbR, hslq, hkk⟩, hsl, hbW⟩
                have d0 := hbW.cell (j * 6)
                have d3 := hbW.cell (j * 6 + 3)
                have d4 := hbW.cell (j * 6 + 4)
                have d5 := hbW.cell (j * 6 + 5)
                have hj0 : j * 6 + 5 < cur.length := by omega
                rw [get6_0 _ _ _ _ _ _ _ _ hj0] at d0
                rw [get6_3 _ _ _ _ _ _ _ _ hj0] at d3
                rw [get6_4 _ _ _ _ _ _ _ _ hj0] at d4
                rw [get6_5 _ _ _ _ _ _ _ _ hj0] at d5
                have hrc := (hbR.cell j).trans (HrR.out j x.r hrx)
                have ho : S'.r.over = pover' := Hal'.out.over.symm
                have he : S'.r.err = perr' := Hal'.out.err.symm
                have hmd : (S'.r.log.length : Int) = (pmade' : Int) := by have := Hal'.out.made; simp only at this; omega
                have hlen0 : x.s.log.length < 1099511627776 := by have h1 := Hlog.out; have h2 := Hal.out.made_le; have h3 := Hal.out.le; have h4 := Hl60.out; simp only at h1 h2 h3; omega
                have hSP : ∀ W : World, Keeps (fun _ => True) W10 W → Calls Try.prog 19 #[.pointer (some ⟨x.r, 0, none⟩), .func (.func 53) #[] #[.pointer (some ⟨W.heap.size, 0, none⟩)]] (W.alloc (.cells #[.slice q.A pl'.length q.cap] 22)) fun e w' =>
                    e = .returned (.bool pover') ∧ RM w' (othersS K9 L8 j) x.r (ws + 1) ws S' ∧ Keeps (othersS K9 L8 j) W w' := by
                  intro W hW
                  have h1 := step_fresh ((hF.keep hW trivial trivial (fun _ _ _ _ _ => trivial)).rm hx) hlen0 (.slice q.A pl'.length q.cap) pl' Hwfq.out ((hslq.keep hW (fun _ _ => trivial)).mono (fun b hb => Or.inl (HKw9.out b hb)))
                  have h2 := HSt.out
                  rw [h2, ho] at h1
                  exact h1
                have hRun : ∀ w12 W : World, RM w12 (othersS K9 L8 j) x.r (ws + 1) ws S' → Keeps (fun _ => True) w12 W → ∃ g, RunAt W x.r (ws + 1) g S'.r := fun w12 W h hk => by
                  obtain ⟨g, h1, _⟩ := h.run
                  exact ⟨g, h1.keep hk trivial (fun _ _ => trivial)⟩
                have hOv : ∀ w12 W : World, RM w12 (othersS K9 L8 j) x.r (ws + 1) ws S' → Keeps (fun _ => True) w12 W → Calls Try.prog 18 #[.pointer (some ⟨x.r, 0, none⟩)] W fun e w' => e = .returned (.bool pover') ∧ W = w' := fun w12 W h hk => by
                  obtain ⟨g, h1⟩ := hRun w12 W h hk
                  have h2 := run_over h1
                  rw [ho] at h2; exact h2
                have hEr : ∀ w12 W : World, RM w12 (othersS K9 L8 j) x.r (ws + 1) ws S' → Keeps (fun _ => True) w12 W → Calls Try.prog 24 #[.pointer (some ⟨x.r, 0, none⟩)] W fun e w' => e = .returned (.int .i64 perr') ∧ W = w' := fun w12 W h hk => by
                  obtain ⟨g, h1⟩ := hRun w12 W h hk
                  have h2 := run_err h1
                  rw [he] at h2; exact h2
                have hCt : ∀ w12 W : World, RM w12 (othersS K9 L8 j) x.r (ws + 1) ws S' → Keeps (fun _ => True) w12 W → Calls Try.prog 22 #[.pointer (some ⟨x.r, 0, none⟩)] W fun e w' => e = .returned (.int .i64 pmade') ∧ W = w' := fun w12 W h hk => by
                  obtain ⟨g, h1⟩ := hRun w12 W h hk
                  have h2 := run_count h1
                  rw [hmd] at h2; exact h2
                have hCe : ∀ w12 W : World, RM w12 (othersS K9 L8 j) x.r (ws + 1) ws S' → Keeps (fun _ => True) w12 W → Calls Try.prog 27 #[.pointer (some ⟨ws + 1, 0, none⟩)] W fun e w' =>
                    e = .returned (.slice (some ⟨W.heap.size, 0, none⟩) (1 + n) (1 + n)) ∧ Blk w' W.heap.size (cs'.map (Value.int .u32)) ∧ Keeps (· < W.heap.size) W w' := fun w12 W h hk => by
                  have h2 := mem_cells (h.mem.keep hk trivial trivial)
                  have h3 := Hcs'.out
                  have h4 := Hlen'.out
                  rw [h3, h4] at h2
                  exact h2
                have hSa : ∀ (W : World) (nb : Nat), Blk W nb (cs'.map (Value.int .u32)) → SlAt W (fun _ => True) 1 (.slice A9 (1 + n) cp9) (1 + n) (cs'.map (Value.int .u32)) → Calls Try.prog 26 #[.slice (some ⟨nb, 0, none⟩) (1 + n) (1 + n), .slice A9 (1 + n) cp9] W fun e w' => e = .returned (.bool true) ∧ ∃ nd, W.drewN nd = w' := fun W nb h1 h2 => by
                  have h4 := Hlen'.out
                  have h3 := SlAt.of_blk (K := fun _ => True) h1 trivial (by rw [List.length_map, h4]; unfold maxLen; omega)
                  rw [List.length_map, h4] at h3
                  have h5 := same_any (xs := cs') (ys := cs') (by rw [h4]; exact h3) (by rw [h4]; exact h2)
                  rw [decide_eq_true (rfl : cs' = cs')] at h5
                  exact h5
                have hQQ : ∀ b, K9 b → othersS K9 L8 j b := fun b hb => Or.inl hb
                have hrl10 := hbR.lt
                have hwl10 := hbW.lt
                have hSk : ∀ (K : Nat → Prop) (W W' : World), Keeps K W W' → K rB → K wB → (W.cell? ⟨rB, j, none⟩ = some (.pointer (some ⟨x.r, 0, none⟩)) ∧ W.cell? ⟨wB, j * 6, none⟩ = some (.slice q.A pl'.length q.cap) ∧ W.cell? ⟨wB, j * 6 + 3, none⟩ = some (.bool pover') ∧ W.cell? ⟨wB, j * 6 + 4, none⟩ = some (.int .i64 perr') ∧ W.cell? ⟨wB, j * 6 + 5, none⟩ = some (.int .i64 pmade')) → (W'.cell? ⟨rB, j, none⟩ = some (.pointer (some ⟨x.r, 0, none⟩)) ∧ W'.cell? ⟨wB, j * 6, none⟩ = some (.slice q.A pl'.length q.cap) ∧ W'.cell? ⟨wB, j * 6 + 3, none⟩ = some (.bool pover') ∧ W'.cell? ⟨wB, j * 6 + 4, none⟩ = some (.int .i64 perr') ∧ W'.cell? ⟨wB, j * 6 + 5, none⟩ = some (.int .i64 pmade')) := fun K W W' hk h1 h2 ⟨e0, e1, e2, e3, e4⟩ =>
                  ⟨(World.cell?_of_block (a := ⟨rB, _, none⟩) (hk.block rB h1)).trans e0, (World.cell?_of_block (a := ⟨wB, _, none⟩) (hk.block wB h2)).trans e1, (World.cell?_of_block (a := ⟨wB, _, none⟩) (hk.block wB h2)).trans e2, (World.cell?_of_block (a := ⟨wB, _, none⟩) (hk.block wB h2)).trans e3, (World.cell?_of_block (a := ⟨wB, _, none⟩) (hk.block wB h2)).trans e4⟩
                have hS10 : W10.cell? ⟨rB, j, none⟩ = some (.pointer (some ⟨x.r, 0, none⟩)) ∧ W10.cell? ⟨wB, j * 6, none⟩ = some (.slice q.A pl'.length q.cap) ∧ W10.cell? ⟨wB, j * 6 + 3, none⟩ = some (.bool pover') ∧ W10.cell? ⟨wB, j * 6 + 4, none⟩ = some (.int .i64 perr') ∧ W10.cell? ⟨wB, j * 6 + 5, none⟩ = some (.int .i64 pmade') := ⟨hrc, d0, d3, d4, d5⟩
                have hSal : ∀ (W : World) (o : Obj), rB < W.heap.size → wB < W.heap.size → (W.cell? ⟨rB, j, none⟩ = some (.pointer (some ⟨x.r, 0, none⟩)) ∧ W.cell? ⟨wB, j * 6, none⟩ = some (.slice q.A pl'.length q.cap) ∧ W.cell? ⟨wB, j * 6 + 3, none⟩ = some (.bool pover') ∧ W.cell? ⟨wB, j * 6 + 4, none⟩ = some (.int .i64 perr') ∧ W.cell? ⟨wB, j * 6 + 5, none⟩ = some (.int .i64 pmade')) → ((W.alloc o).cell? ⟨rB, j, none⟩ = some (.pointer (some ⟨x.r, 0, none⟩)) ∧ (W.alloc o).cell? ⟨wB, j * 6, none⟩ = some (.slice q.A pl'.length q.cap) ∧ (W.alloc o).cell? ⟨wB, j * 6 + 3, none⟩ = some (.bool pover') ∧ (W.alloc o).cell? ⟨wB, j * 6 + 4, none⟩ = some (.int .i64 perr') ∧ (W.alloc o).cell? ⟨wB, j * 6 + 5, none⟩ = some (.int .i64 pmade')) := fun W o h1 h2 h => hSk (· < W.heap.size) W _ ((Keeps.refl _ _).alloc (fun b hb => hb) o) h1 h2 h
                have hSb : ∀ wb : World, Keeps (othersS K9 L8 j) W10.drew wb → (wb.cell? ⟨rB, j, none⟩ = some (.pointer (some ⟨x.r, 0, none⟩)) ∧ wb.cell? ⟨wB, j * 6, none⟩ = some (.slice q.A pl'.length q.cap) ∧ wb.cell? ⟨wB, j * 6 + 3, none⟩ = some (.bool pover') ∧ wb.cell? ⟨wB, j * 6 + 4, none⟩ = some (.int .i64 perr') ∧ wb.cell? ⟨wB, j * 6 + 5, none⟩ = some (.int .i64 pmade')) := fun wb hk => hSk _ W10.drew wb hk (hQQ rB HKr9.out) (hQQ wB HKb9.out) hS10
                have hSc : ∀ wb W we : World, Keeps (othersS K9 L8 j) W10.drew wb → Keeps (fun _ => True) wb W → Keeps (· < W.heap.size) W we → (we.cell? ⟨rB, j, none⟩ = some (.pointer (some ⟨x.r, 0, none⟩)) ∧ we.cell? ⟨wB, j * 6, none⟩ = some (.slice q.A pl'.length q.cap) ∧ we.cell? ⟨wB, j * 6 + 3, none⟩ = some (.bool pover') ∧ we.cell? ⟨wB, j * 6 + 4, none⟩ = some (.int .i64 perr') ∧ we.cell? ⟨wB, j * 6 + 5, none⟩ = some (.int .i64 pmade')) := fun wb W we h1 h2 h3 =>
                  hSk _ W we h3 (by have := h1.size; have := h2.size; show rB < _; simp only [World.size_drew] at *; omega) (by have := h1.size; have := h2.size; show wB < _; simp only [World.size_drew] at *; omega) (hSk _ wb W h2 trivial trivial (hSb wb h1))
                have hS11 := hSal W10.drew (.cells #[.slice q.A pl'.length q.cap] 22) hrl10 hwl10 hS10
                obtain ⟨z0, z1, z2, z3, z4⟩ := hS11
                have hSlA : ∀ wb W we : World, Keeps (othersS K9 L8 j) W10.drew wb → Keeps (fun _ => True) wb W → Keeps (· < W.heap.size) W we → SlAt we (fun _ => True) 1 (.slice A9 (1 + n) cp9) (1 + n) (cs'.map (Value.int .u32)) := fun wb W we h1 h2 h3 =>
                  ((((hsl.keep (L := othersS K9 L8 j) (w' := wb) ⟨h1.os, h1.tape, h1.output, h1.size, h1.block⟩ (fun b hb => hQQ b hb.1)).keep h2 (fun _ _ => trivial)).keep (L := fun b => b < W.heap.size) h3 (fun b hb => by have e1 := hF.olt j b (hQQ b hb.1); have := h1.size; have := h2.size; simp only [World.size_drew] at *; omega))).mono (fun _ _ => trivial)
                have hFin : ∀ wb Wf : World, RM wb (othersS K9 L8 j) x.r (ws + 1) ws S' → Keeps (othersS K9 L8 j) W10.drew wb → Keeps (· < wb.heap.size) wb Wf → ∃ g', FamS Wf K9 (ws + 1) ws S'.m (L8.set j ⟨x.r, g', S'.r⟩) ∧ SlAt Wf (fun b => K9 b ∧ b ≠ wB) 1 (.slice A9 (1 + n) cp9) (1 + n) (S'.m.cells.map (Value.int .u32)) ∧ Blk Wf rB curR.toList ∧
                    Blk Wf wB ((((((cur.set (j * 6) (.slice q.A pl'.length q.cap)).set (j * 6 + 1) (.int .i64 pat')).set (j * 6 + 2) (.int .u32 plast')).set (j * 6 + 3) (.bool pover')).set (j * 6 + 4) (.int .i64 perr')).set (j * 6 + 5) (.int .i64 pmade')) ∧ Keeps (· < ws) w Wf := fun wb Wf h1 h2 h3 => by
                  have e1 := hF.keep ((Keeps.refl (fun _ => True) W10).drew) trivial trivial (fun _ _ _ _ _ => trivial)
                  obtain ⟨g', e2⟩ := e1.step hx h1 h2
                  have e3 := e2.below h3
                  have e4 : Keeps (othersS K9 L8 j) W10 wb := ⟨h2.os, h2.tape, h2.output, h2.size, h2.block⟩
                  have e5 : ∀ b, othersS K9 L8 j b → b < wb.heap.size := fun b hb => by have := hF.olt j b hb; have := e4.size; omega
                  have e6 : Keeps (othersS K9 L8 j) W10 Wf := e4.trans (h3.mono e5)
                  have e7 := Hcs'.out
                  exact ⟨g', e3, by rw [e7]; exact hsl.keep e6 (fun b hb => hQQ b hb.1), hbR.keep e6 (hQQ rB HKr9.out), hbW.keep e6 (hQQ wB HKb9.out), hkk.trans (e6.mono fun b hb => hQQ b (HKw9.out b hb))⟩
                have hRs' : ∀ g', (L8.set j ⟨x.r, g', S'.r⟩).map (·.r) = rs := fun g' => by
                  rw [List.map_set]
                  show (L8.map (·.r)).set j x.r = rs
                  rw [HLr.out]
                  obtain ⟨hlt9, e9⟩ := List.getElem?_eq_some_iff.1 hrx
                  rw [← e9, List.set_getElem_self]
                have hCw' : ∀ (j' : Nat) (p : ProgM) (q' : PIn), (ps.set j ⟨pl', pat', plast', pover', perr', pmade'⟩)[j']? = some p → l[j']? = some q' → ∀ t, t < 6 → (((((((cur.set (j * 6) (.slice q.A pl'.length q.cap)).set (j * 6 + 1) (.int .i64 pat')).set (j * 6 + 2) (.int .u32 plast')).set (j * 6 + 3) (.bool pover')).set (j * 6 + 4) (.int .i64 perr')).set (j * 6 + 5) (.int .i64 pmade')))[j' * 6 + t]? = (ProgM.vals p (.slice q'.A (q'.l.take 60).length q'.cap))[t]? := by
                  intro j' p q' hp' hq' t' ht'
                  by_cases hjj : j' = j
                  · subst hjj
                    rw [List.getElem?_set_self (by omega)] at hp'
                    injection hp' with hp'
                    subst hp'
                    rw [hq] at hq'
                    injection hq' with hq'
                    subst hq'
                    have e9 := Hql.out
                    rw [e9]
                    rcases (by omega : t' = 0 ∨ t' = 1 ∨ t' = 2 ∨ t' = 3 ∨ t' = 4 ∨ t' = 5) with rfl | rfl | rfl | rfl | rfl | rfl
                    · exact get6_0 _ _ _ _ _ _ _ _ hj0
                    · exact get6_1 _ _ _ _ _ _ _ _ hj0
                    · exact get6_2 _ _ _ _ _ _ _ _ hj0
                    · exact get6_3 _ _ _ _ _ _ _ _ hj0
                    · exact get6_4 _ _ _ _ _ _ _ _ hj0
                    · exact get6_5 _ _ _ _ _ _ _ _ hj0
                  · rw [List.getElem?_set_ne (fun e => hjj e.symm)] at hp'
                    rw [get6_ne _ _ _ _ _ _ _ _ _ (by omega)]
                    exact Hcw8.out j' p q' hp' hq' t' ht'
                have hAl' : ∀ (g' : Value) (j' : Nat) (x' : OneS) (p : ProgM) (q' : PIn), (L8.set j ⟨x.r, g', S'.r⟩)[j']? = some x' → (ps.set j ⟨pl', pat', plast', pover', perr', pmade'⟩)[j']? = some p → l[j']? = some q' → Alike (q'.l.take 60) ⟨x'.s, S'.m⟩ p := by
                  intro g' j' x' p q' hx' hp' hq'
                  by_cases hjj : j' = j
                  · subst hjj
                    rw [List.getElem?_set_self (by omega)] at hp'
                    injection hp' with hp'
                    subst hp'
                    rw [List.getElem?_set_self (List.getElem?_eq_some_iff.1 hx).1] at hx'
                    injection hx' with hx'
                    subst hx'
                    rw [hq] at hq'
                    injection hq' with hq'
                    subst hq'
                    have e9 := Hql.out
                    rw [e9]
                    exact Hal'.out
                  · rw [List.getElem?_set_ne (fun e => hjj e.symm)] at hp' hx'
                    exact (Hal8.out j' x' p q' hx' hp' hq').mem S'.m
                have hcl' : S'.m.cells.length = 1 + n := by rw [Hcs'.out]; exact Hlen'.out
                have hcl6 : kn * 6 ≤ (((((((cur.set (j * 6) (.slice q.A pl'.length q.cap)).set (j * 6 + 1) (.int .i64 pat')).set (j * 6 + 2) (.int .u32 plast')).set (j * 6 + 3) (.bool pover')).set (j * 6 + 4) (.int .i64 perr')).set (j * 6 + 5) (.int .i64 pmade'))).length := by simpa using hcl8
                have ht1 : t + 1 ≤ turns.length := by omega
                have hRel : ∀ wb Wf : World, RM wb (othersS K9 L8 j) x.r (ws + 1) ws S' → Keeps (othersS K9 L8 j) W10.drew wb → Keeps (· < wb.heap.size) wb Wf → ∃ (t1 : Nat) (K8 : Nat → Prop) (L8 : List OneS) (ps : List ProgM) (μ : MemS) (cur : List Value) (A8 : Option Addr) (cp8 : Nat), Value.int .i64 ((t : Int) + 1) = .int .i64 t1 ∧ t1 ≤ turns.length ∧ L8.map (·.r) = rs ∧ ps.length = kn ∧ Value.slice A9 (1 + n) cp9 = .slice A8 (1 + n) cp8 ∧ μ.cells.length = 1 + n ∧
            FamS Wf K8 (ws + 1) ws μ L8 ∧ (∀ b, b < ws → K8 b) ∧ K8 rB ∧ K8 wB ∧ SlAt Wf (fun b => K8 b ∧ b ≠ wB) 1 (.slice A8 (1 + n) cp8) (1 + n) (μ.cells.map (Value.int .u32)) ∧ Blk Wf rB curR.toList ∧ Blk Wf wB cur ∧ kn * 6 ≤ cur.length ∧
            (∀ (j : Nat) (p : ProgM) (q : PIn), ps[j]? = some p → l[j]? = some q → ∀ t, t < 6 → cur[j * 6 + t]? = (ProgM.vals p (.slice q.A (q.l.take 60).length q.cap))[t]?) ∧
            (∀ (j : Nat) (x : OneS) (p : ProgM) (q : PIn), L8[j]? = some x → ps[j]? = some p → l[j]? = some q → Alike (q.l.take 60) ⟨x.s, μ⟩ p) ∧ Keeps (· < ws) w Wf := fun wb Wf k1 k2 k3 => by
                  obtain ⟨g', f1, f2, f3, f4, f5⟩ := hFin wb Wf k1 k2 k3
                  exact ⟨t + 1, K9, L8.set j ⟨x.r, g', S'.r⟩, ps.set j ⟨pl', pat', plast', pover', perr', pmade'⟩, S'.m, ((((((cur.set (j * 6) (.slice q.A pl'.length q.cap)).set (j * 6 + 1) (.int .i64 pat')).set (j * 6 + 2) (.int .u32 plast')).set (j * 6 + 3) (.bool pover')).set (j * 6 + 4) (.int .i64 perr')).set (j * 6 + 5) (.int .i64 pmade')), A9, cp9, by go_num, ht1, hRs' g', by rw [List.length_set]; exact hpl, rfl, hcl', f1, HKw9.out, HKr9.out, HKb9.out, f2, f3, f4, hcl6, hCw', hAl' g', f5⟩
                clear hRun hSal hSk hS10 hFin hRs' hCw' hAl' hcl' hcl6 ht1
                have HSP := hid hSP
                have HOv := hid hOv
                have HEr := hid hEr
                have HCt := hid hCt
                have HCe := hid hCe
                have HSa := hid hSa
                have Ho := hid ho
                have He := hid he
                have Hmd := hid hmd
                have HQQ := hid hQQ
                have HF := hid hF
                have HbR := hid hbR
                have Hslq := hid hslq
                have Hkk := hid hkk
                have Hsl := hid hsl
                have HbW := hid hbW
                have HSb := hid hSb
                have HSc := hid hSc
                have HSlA := hid hSlA
                have HRel := hid hRel
                clear hSP hOv hEr hCt hCe hSa ho he hmd hQQ hF hbR hslq hkk hsl hbW hSb hSc hSlA hRel
                clear Ho He Hmd HQQ HF HbR Hslq Hkk Hsl HbW Hcs' Hlen' Hal Hal' Hps Hl60 Hlog Hcell Hql Hwfq HSt Hcw8 Hal8 HKw9 HKr9 HKb9 HLr
                go_region_held3 (fun w' => w'.cell? ⟨rB, j, none⟩ = some (.pointer (some ⟨x.r, 0, none⟩)) ∧ w'.cell? ⟨wB, j * 6, none⟩ = some (.slice q.A pl'.length q.cap) ∧ w'.cell? ⟨wB, j * 6 + 3, none⟩ = some (.bool pover') ∧ w'.cell? ⟨wB, j * 6 + 4, none⟩ = some (.int .i64 perr') ∧ w'.cell? ⟨wB, j * 6 + 5, none⟩ = some (.int .i64 pmade')) (go_keep)
                  (first
                    | (go_at_call 20; refine (program_any _ q.A pl'.length q.cap rfl _).mono ?_; rintro e wa ⟨rfl, rfl⟩)
                    | (go_at_call 19; refine (HSP.out W10.drew (Keeps.refl _ _).drew).mono ?_; rintro e wb ⟨rfl, hRb, hKb⟩; obtain ⟨q0, q1, q2, q3, q4⟩ := HSb.out _ hKb)
                    | (go_at_call 18; refine (HOv.out _ _ hRb (by first | exact Keeps.refl _ _ | exact (Keeps.refl _ _).drew | exact (Keeps.refl _ _).drew.drew | exact (Keeps.refl _ _).drew.drew.drew)).mono ?_; rintro e wc ⟨rfl, rfl⟩)
                    | (go_at_call 24; refine (HEr.out _ _ hRb (by first | exact Keeps.refl _ _ | exact (Keeps.refl _ _).drew | exact (Keeps.refl _ _).drew.drew | exact (Keeps.refl _ _).drew.drew.drew)).mono ?_; rintro e wc ⟨rfl, rfl⟩)
                    | (go_at_call 22; refine (HCt.out _ _ hRb (by first | exact Keeps.refl _ _ | exact (Keeps.refl _ _).drew | exact (Keeps.refl _ _).drew.drew | exact (Keeps.refl _ _).drew.drew.drew)).mono ?_; rintro e wc ⟨rfl, rfl⟩)
                    | (go_at_call 27; refine (HCe.out _ _ hRb (by first | exact Keeps.refl _ _ | exact (Keeps.refl _ _).drew | exact (Keeps.refl _ _).drew.drew | exact (Keeps.refl _ _).drew.drew.drew)).mono ?_; rintro e we ⟨rfl, hBe, hKe⟩; obtain ⟨p0, p1, p2, p3, p4⟩ := HSc.out _ _ _ hKb (by first | exact Keeps.refl _ _ | exact (Keeps.refl _ _).drew | exact (Keeps.refl _ _).drew.drew | exact (Keeps.refl _ _).drew.drew.drew) hKe)
                    | (go_at_call 26; refine (HSa.out _ _ ?_ ?_).mono ?_; exact hBe; exact HSlA.out _ _ _ hKb (by first | exact Keeps.refl _ _ | exact (Keeps.refl _ _).drew | exact (Keeps.refl _ _).drew.drew | exact (Keeps.refl _ _).drew.drew.drew) hKe; rintro e wf ⟨rfl, nd, rfl⟩))
                go_wp2_with fail
                go_roundw
                case rel =>
                  refine HRel.out _ _ hRb hKb ?_
                  repeat (first | with_reducible refine Keeps.drew ?_ | with_reducible refine Keeps.drewN ?_ _)
                  first | exact ((Keeps.refl _ _).trans hKe) | exact (((Keeps.refl _ _).drew).trans hKe) | exact (((Keeps.refl _ _).drew.drew).trans hKe) | exact (((Keeps.refl _ _).drew.drew.drew).trans hKe)
                case measure => simp [intOf]; omega
            · have htn : t = turns.length := by omega
              subst htn
              have Hkk8 := hid hkk8
              clear hkk8
              go_wp2_with fail
              exact hR'.out _ _ ⟨rfl, Hkk8.out⟩
      · have h4' : ¬ (4 : Int) ≤ (k : Int) := by omega
        obtain ⟨i0, hi, hz0, hz1, hz2⟩ := info_parts Try.infoR
        obtain ⟨i1, gi, gz0, gz1, gz2⟩ := info_parts Try.infoP
        clear hlt
        go_wp2_with fail
        refine (step_new wr (ws + 1)).mono ?_
        rintro e w4 ⟨rfl, hr4, hk4', hz4⟩
        have hF4 := HF.out.push hr4 hk4'
        have hrow4 := own_of_keep Hrow.out hk4' (fun b hb => HF.out.lt b (HrB.out b hb).1)
        have hwrow4 := own_of_keep Hwrow.out hk4' (fun b hb => HF.out.lt b (HwB.out b hb).1)
        have hBc4 := HBc.out.keep hk4' HBc.out.lt
        have hkk4 := Hkk.out.trans (hk4'.mono fun b hb => by have := HF.out.lt b (HKw.out b hb); omega)
        have hrun4 : ∀ x ∈ L ++ [(⟨wr.heap.size, .slice none 0 0, run0⟩ : OneS)], x.s = run0 := by
          intro x hx
          rcases List.mem_append.1 hx with h | h
          · exact Hrun.out x h
          · simp at h; rw [h]
        have hpt : ptrs (L ++ [(⟨wr.heap.size, .slice none 0 0, run0⟩ : OneS)]) = ptrs L ++ [.pointer (some ⟨wr.heap.size, 0, none⟩)] := by unfold ptrs; rw [List.map_append]; rfl
        have hzz : cB < w4.heap.size := hBc4.lt
        clear hr4 hk4' hz4 HF Hrow Hwrow HBc Hkk Hrun y0
        generalize wr.heap.size = r4 at *
        have HF4 := hid hF4
        have Hrow4 := hid hrow4
        have Hwrow4 := hid hwrow4
        have HBc4 := hid hBc4
        have Hkk4 := hid hkk4
        have Hrun4 := hid hrun4
        have Hpt := hid hpt
        clear hF4 hrow4 hwrow4 hBc4 hkk4 hrun4 hpt
        go_wp2_with (at_builtin; refine wpList_append_x rfl _ _ 46 rfl 27 i0 (.pointer none) 1 8 Try.underlying46 hi hz0 hz1 hz2 rfl (by decide) rv k (ptrs L) rfl (Hrow4.out.alloc _) ⟨w4.heap.size, 0, none⟩ 1 1 [.pointer (some ⟨r4, 0, none⟩)] rfl rfl ?_ ?_ ?_ ?_ ?_)
        · intro j u hj
          rcases j with _ | j
          · simpa [Addr.add] using hj
          · simp at hj
        · intro u hu; simp at hu; rcases hu with rfl; rfl
        · unfold maxLen; omega
        · omega
        · intro v' w5 hown' hgr hfr
          have hka : Keeps (· < w4.heap.size) w4 (w4.alloc (.cells #[.pointer (some ⟨r4, 0, none⟩)] 27)) := (Keeps.refl _ _).alloc (fun b hb => hb) _
          have hFa := HF4.out.below hka
          have hvlt : ∀ b, v'.ownBlock = some b → b < w5.heap.size := fun b hb => (hown'.lt b hb).2
          have hF5 := hFa.append (fun b hb => (HrB.out b hb).1) hgr (by rw [World.size_alloc]; exact hfr) hvlt
          have hgk := grownK hgr
          have hwrow5 := own_of_keep (Hwrow4.out.alloc (.cells #[.pointer (some ⟨r4, 0, none⟩)] 27)) hgk (fun b hb => ⟨by have := HF4.out.lt b (HwB.out b hb).1; rw [World.size_alloc]; omega, fun e => (HwB.out b hb).2.2.2 e.symm⟩)
          have hBc5 := (HBc4.out.alloc (.cells #[.pointer (some ⟨r4, 0, none⟩)] 27)).keep hgk ⟨by rw [World.size_alloc]; omega, fun e => (HrB.out cB e.symm).2.2 rfl⟩
          have hkk5 := (Hkk4.out.trans (hka.mono fun b hb => by have := HF4.out.lt b (HKw.out b hb); omega)).trans (hgk.mono fun b hb => ⟨by have := HF4.out.lt b (HKw.out b hb); rw [World.size_alloc]; omega, fun e => by have := (HrB.out b e.symm).2.1; have hb' : b < ws := hb; omega⟩)
          have hrB5 : ∀ b, v'.ownBlock = some b → ws ≤ b ∧ b ≠ cB ∧ (∀ b', wv.ownBlock = some b' → b' ≠ b) := by
            intro b hb
            rcases hfr with h | ⟨b', h, h2⟩
            · rw [h] at hb
              have := HrB.out b hb
              exact ⟨this.2.1, this.2.2, fun b' hb' e => (HwB.out b' hb').2.2.2 (by rw [hb, e])⟩
            · rw [h] at hb; injection hb with hb
              try rw [World.size_alloc] at h2
              have hcw := HF4.out.mem.obj.lt
              exact ⟨by omega, by omega, fun b'' hb'' e => by have := HF4.out.lt b'' (HwB.out b'' hb'').1; omega⟩
          have hrow5 : w5.ownsRow 0 27 1 v' (k + 1) (ptrs (L ++ [(⟨r4, .slice none 0 0, run0⟩ : OneS)])) := by rw [Hpt.out]; exact hown'
          have hzz5 : cB < w5.heap.size := hBc5.lt
          have HF5 := hid hF5
          have Hwrow5 := hid hwrow5
          have HBc5 := hid hBc5
          have Hkk5 := hid hkk5
          have HrB5 := hid hrB5
          have Hrow5 := hid hrow5
          clear hF5 hwrow5 hBc5 hkk5 hrB5 hrow5
          clear hown' hgr hfr hka hFa hvlt hgk HF4 Hrow4 Hwrow4 HBc4 Hkk4 Hpt hi hz0 hz1 hz2 hzz
          go_wp2_with fail
          refine (cut_any pA pl.length pcap H91.out H92.out _).mono ?_
          rintro e w6 ⟨rfl, rfl⟩
          go_wp2_with (at_builtin; refine wpList_append_x rfl _ _ 47 rfl 49 i1 (.agg #[.slice none 0 0, .int .i64 0, .int .u32 0, .bool false, .int .i64 0, .int .i64 0]) 6 56 Try.underlying47 gi gz0 gz1 gz2 rfl (by decide) wv k (vals0 (l.take k)) rfl (Hwrow5.out.alloc _) ⟨w5.heap.size, 0, none⟩ 1 1 [.slice pA (min pl.length 60) pcap, .int .i64 0, .int .u32 0, .bool false, .int .i64 0, .int .i64 0] rfl rfl ?_ ?_ ?_ ?_ ?_)
          · intro j u hj
            rcases j with _ | _ | _ | _ | _ | _ | j
            all_goals (first | (simp at hj; done) | (simpa [Addr.add] using hj))
          · intro u hu; simp at hu; rcases hu with rfl | rfl | rfl | rfl | rfl | rfl <;> rfl
          · unfold maxLen; omega
          · omega
          · intro v2 w7 hown2 hgr2 hfr2
            have hka : Keeps (· < w5.heap.size) w5 (w5.alloc (.cells #[.slice pA (min pl.length 60) pcap, .int .i64 0, .int .u32 0, .bool false, .int .i64 0, .int .i64 0] 49)) := (Keeps.refl _ _).alloc (fun b hb => hb) _
            have hFa := HF5.out.below hka
            have hvlt : ∀ b, v2.ownBlock = some b → b < w7.heap.size := fun b hb => (hown2.lt b hb).2
            have hF7 := hFa.append (fun b hb => Or.inl (HwB.out b hb).1) hgr2 (by rw [World.size_alloc]; exact hfr2) hvlt
            have hgk := grownK hgr2
            have hrow7 := own_of_keep (Hrow5.out.alloc (.cells #[.slice pA (min pl.length 60) pcap, .int .i64 0, .int .u32 0, .bool false, .int .i64 0, .int .i64 0] 49)) hgk (fun b hb => ⟨by have := HF5.out.lt b (Or.inr hb); rw [World.size_alloc]; omega, fun e => (HrB5.out b hb).2.2 b e.symm rfl⟩)
            have hBc7 := (HBc5.out.alloc (.cells #[.slice pA (min pl.length 60) pcap, .int .i64 0, .int .u32 0, .bool false, .int .i64 0, .int .i64 0] 49)).keep hgk ⟨by rw [World.size_alloc]; omega, fun e => (HwB.out cB e.symm).2.2.1 rfl⟩
            have hkk7 := (Hkk5.out.trans (hka.mono fun b hb => by have := HF5.out.lt b (Or.inl (HKw.out b hb)); omega)).trans (hgk.mono fun b hb => ⟨by have := HF5.out.lt b (Or.inl (HKw.out b hb)); rw [World.size_alloc]; omega, fun e => by have := (HwB.out b e.symm).2.1; have hb' : b < ws := hb; omega⟩)
            have hwB7 : ∀ b, v2.ownBlock = some b → ws ≤ b ∧ b ≠ cB ∧ v'.ownBlock ≠ some b := by
              intro b hb
              rcases hfr2 with h | ⟨b', h, h2⟩
              · rw [h] at hb
                have := HwB.out b hb
                exact ⟨this.2.1, this.2.2.1, fun e => (HrB5.out b e).2.2 b hb rfl⟩
              · rw [h] at hb; injection hb with hb
                try rw [World.size_alloc] at h2
                have hcw := HF5.out.mem.obj.lt
                exact ⟨by omega, by omega, fun e => by have := HF5.out.lt b (Or.inr e); omega⟩
            have hwrow7 : w7.ownsRow 0 49 6 v2 (k + 1) (vals0 (l.take (k + 1))) := by rw [Hv0.out]; exact hown2
            have hL7 : (L ++ [(⟨r4, .slice none 0 0, run0⟩ : OneS)]).length = k + 1 := by rw [List.length_append, hL]; rfl
            have HF7 := hid hF7
            have Hrow7 := hid hrow7
            have HBc7 := hid hBc7
            have Hkk7 := hid hkk7
            have HwB7 := hid hwB7
            have Hwrow7 := hid hwrow7
            have HL7 := hid hL7
            clear hF7 hrow7 hBc7 hkk7 hwB7 hwrow7 hL7
            clear hown2 hgr2 hfr2 hka hFa hvlt hgk HF5 Hwrow5 HBc5 Hkk5 Hrow5 gi gz0 gz1 gz2
            go_wp2_with fail
            go_roundw
            case rel => exact ⟨k + 1, _, L ++ [⟨r4, .slice none 0 0, run0⟩], _, _, by go_num, rfl, rfl, by omega, by omega, HL7.out, Hrow7.out, Hwrow7.out, HF7.out, fun b hb => Or.inl (Or.inl (HKw.out b hb)), Or.inl (Or.inl HKc.out), fun b hb => ⟨Or.inl (Or.inr hb), (HrB5.out b hb).1, (HrB5.out b hb).2.1⟩,
              fun b hb => ⟨Or.inr hb, HwB7.out b hb⟩, HBc7.out, Hkk7.out, Hrun4.out⟩
            case measure => simp [intOf]; omega
    · have hkn : k = l.length := by omega
      subst hkn
      have Hrow := hid hrow
      have Hwrow := hid hwrow
      have HF := hid hF
      have HKw := hid hKw
      have HKc := hid hKc
      have HrB := hid hrB
      have HwB := hid hwB
      have HBc := hid hBc
      have Hkk := hid hkk
      have Hrun := hid hrun
      clear hrow hwrow hF hKw hKc hrB hwB hBc hkk hrun
      have hKc1 := HKc.out
      have hrow := Hrow.out
      have hwrow := Hwrow.out
      by_cases hz : l.length = 0
      · have hz' : rv = .slice none 0 0 ∨ ∃ g cap, rv = .slice (some ⟨g, 0, none⟩) 0 cap := by
          rcases hrow.2 with ⟨h1, _⟩ | ⟨g, cap, _, h1, _⟩
          · exact Or.inl h1
          · exact Or.inr ⟨g, cap, by rw [h1, hz]⟩
        clear hrow hwrow
        rcases hz' with h | ⟨g, cap, h⟩
        · rw [h]
          go_wp2_with fail
          all_goals exact hR'.out _ _ ⟨rfl, Hkk.out⟩
        · rw [h]
          go_wp2_with fail
          all_goals exact hR'.out _ _ ⟨rfl, Hkk.out⟩
      · rcases hrow.2 with ⟨_, h1⟩ | ⟨rB, rcap, curR, hrv, _, hrh, hr1, hr2, hr3, hrt⟩
        · exact absurd h1 hz
        rcases hwrow.2 with ⟨_, h1⟩ | ⟨wB, wcap, curW, hwv, _, hwh, hw1, hw2, hw3, hwt⟩
        · exact absurd h1 hz
        have hbR : Blk wr rB curR.toList := ⟨_, hrh⟩
        have hbW : Blk wr wB curW.toList := ⟨_, hwh⟩
        have hKr := (HrB.out rB (by rw [hrv]; rfl)).1
        have hKwB := (HwB.out wB (by rw [hwv]; rfl)).1
        have hrw : rB ≠ wB := fun e => (HwB.out wB (by rw [hwv]; rfl)).2.2.2 (by rw [hrv, ← e]; rfl)
        have hkle : l.length ≤ l.length := by omega
        have hwBs : ws ≤ wB := (HwB.out wB (by rw [hwv]; rfl)).2.1
        have HwBs := hid hwBs
        clear hwBs
        have hcurR : ∀ (j : Nat) (x : OneS), L[j]? = some x → curR.toList[j]? = some (.pointer (some ⟨x.r, 0, none⟩)) := by
          intro j x hx
          have h1 : (curR.toList.take (l.length * 1))[j]? = some (.pointer (some ⟨x.r, 0, none⟩)) := by
            rw [hrt]; unfold ptrs; rw [List.getElem?_map, hx]; rfl
          have hj : j < l.length * 1 := by have := (List.getElem?_eq_some_iff.1 hx).1; omega
          rwa [List.getElem?_take_of_lt hj] at h1
        have hcurW : ∀ (j : Nat) (q : PIn), l[j]? = some q → j < l.length → ∀ t, t < 6 → curW.toList[j * 6 + t]? = (ProgM.vals ⟨q.l.take 60, 0, 0, false, 0, 0⟩ (.slice q.A (q.l.take 60).length q.cap))[t]? := by
          intro j q hq hj t ht
          have h1 := vals0_get (l.take l.length) j q (by rw [List.getElem?_take_of_lt hj]; exact hq) t ht
          rw [← hwt] at h1
          rwa [List.getElem?_take_of_lt (by omega)] at h1
        have hU0 : 1 + n ≤ 65536 := by omega
        have hsl0 := SlAt.of_blk (K := fun b => K b ∧ b ≠ wB) HBc.out ⟨hKc1, fun e => (HwB.out wB (by rw [hwv]; rfl)).2.2.1 e.symm⟩ (by rw [List.length_map, List.length_replicate]; unfold maxLen; omega)
        rw [List.length_map, List.length_replicate] at hsl0
        have hrs : ∃ rs : List Nat, rs = L.map (·.r) := ⟨_, rfl⟩
        obtain ⟨rs, hrs⟩ := hrs
        have hLs : L.length = rs.length := by rw [hrs, List.length_map]
        have hrR : ∀ (j r : Nat), rs[j]? = some r → curR.toList[j]? = some (.pointer (some ⟨r, 0, none⟩)) := by
          intro j r hj
          rw [hrs, List.getElem?_map] at hj
          obtain ⟨x, hx, rfl⟩ := Option.map_eq_some_iff.1 hj
          exact hcurR j x hx
        have hal0 : ∀ (j : Nat) (x : OneS) (q : PIn), L[j]? = some x → l[j]? = some q → Alike (q.l.take 60) ⟨x.s, ⟨List.replicate (1 + n) 0, 0, 0⟩⟩ ⟨q.l.take 60, 0, 0, false, 0, 0⟩ := by
          intro j x q hx hq
          rw [Hrun.out x (List.mem_of_getElem? hx)]
          exact Alike.start _ _ _ _ _
        have hkk7 := Hkk.out
        have hFF := HF.out
        have hKww := HKw.out
        rw [hrv, hwv]
        have hk4b : l.length ≤ 4 := by omega
        have hLk : L.length = l.length := by omega
        clear hrow hwrow Hrow Hwrow HrB HwB hrh hwh hrt hwt hcurR
        generalize hkn0 : l.length = kn at *
        have hrsn : rs.length = kn := by omega
        have hcurW6 : kn * 6 ≤ curW.toList.length := by
          rcases Nat.eq_zero_or_pos kn with h | h
          · omega
          · have := hw3
            have hcw : curW.toList.length = wcap * 6 := by simpa using hw3
            omega
        have HbR := hid hbR
        have HbW := hid hbW
        have HKr := hid hKr
        have HKwB := hid hKwB
        have Hrw := hid hrw
        have HcurW := hid hcurW
        have Hsl0 := hid hsl0
        have HrR := hid hrR
        have Hal0 := hid hal0
        have Hkk7 := hid hkk7
        have HFF := hid hFF
        have HKww := hid hKww
        have Hrs := hid hrs
        have HcurW6 := hid hcurW6
        clear hbR hbW hKr hKwB hrw hcurW hsl0 hrR hal0 hkk7 hFF hKww hrs hcurW6
        clear Hkk HF HKw Hrun HBc HKc hKc1 hrv hwv hw2 hw3 hr2 hr3
        have hkpos : 0 < kn := by omega
        have hkI : (0 : Int) < (kn : Int) := by omega
        have hkb : ((kn : Int) == 0) = false := by simp; omega
        go_wp2_with fail
        go_loopw [9, 60] (fun cv i w8 => ∃ (t : Nat) (K8 : Nat → Prop) (L8 : List OneS) (ps : List ProgM) (μ : MemS) (cur : List Value) (A8 : Option Addr) (cp8 : Nat), i = .int .i64 t ∧ t ≤ turns.length ∧ L8.map (·.r) = rs ∧ ps.length = kn ∧ cv = .slice A8 (1 + n) cp8 ∧ μ.cells.length = 1 + n ∧
          FamS w8 K8 (ws + 1) ws μ L8 ∧ (∀ b, b < ws → K8 b) ∧ K8 rB ∧ K8 wB ∧ SlAt w8 (fun b => K8 b ∧ b ≠ wB) 1 (.slice A8 (1 + n) cp8) (1 + n) (μ.cells.map (Value.int .u32)) ∧ Blk w8 rB curR.toList ∧ Blk w8 wB cur ∧ kn * 6 ≤ cur.length ∧
          (∀ (j : Nat) (p : ProgM) (q : PIn), ps[j]? = some p → l[j]? = some q → ∀ t, t < 6 → cur[j * 6 + t]? = (ProgM.vals p (.slice q.A (q.l.take 60).length q.cap))[t]?) ∧
          (∀ (j : Nat) (x : OneS) (p : ProgM) (q : PIn), L8[j]? = some x → ps[j]? = some p → l[j]? = some q → Alike (q.l.take 60) ⟨x.s, μ⟩ p) ∧ Keeps (· < ws) w w8) (fun _ i _ => turns.length - (intOf i).toNat)
        case atStart => 
          refine ⟨0, K, L, (l.take kn).map fun q => ⟨q.l.take 60, 0, 0, false, 0, 0⟩, _, curW.toList, some ⟨cB, 0, none⟩, 1 + n, rfl, Nat.zero_le _, Hrs.out.symm, by rw [List.length_map, List.length_take]; omega, by first | rfl | (congr 1), List.length_replicate .., HFF.out, HKww.out, HKr.out, HKwB.out, Hsl0.out, HbR.out, HbW.out, HcurW6.out, ?_, ?_, Hkk7.out⟩
          · intro j p q hp hq t ht
            rw [List.getElem?_map] at hp
            obtain ⟨q', hq', rfl⟩ := Option.map_eq_some_iff.1 hp
            have hj : j < kn := by have := (List.getElem?_eq_some_iff.1 hq').1; rw [List.length_take] at this; omega
            rw [List.getElem?_take_of_lt hj, hq] at hq'
            injection hq' with hq'
            subst hq'
            exact HcurW.out j q hq hj t ht
          · intro j x p q hx hp hq
            rw [List.getElem?_map] at hp
            obtain ⟨q', hq', rfl⟩ := Option.map_eq_some_iff.1 hp
            have hj : j < kn := by have := (List.getElem?_eq_some_iff.1 hq').1; rw [List.length_take] at this; omega
            rw [List.getElem?_take_of_lt hj, hq] at hq'
            injection hq' with hq'
            subst hq'
            exact Hal0.out j x q hx hq
        case round =>
          rename World => w8
          obtain ⟨t, K8, L8, ps, μ, cur, A8, cp8, rfl, ht, hLr, hpl, rfl, hμl, hF8, hKw8, hKr8, hKb8, hsl8, hbR8, hbW8, hcl8, hcw8, hal8, hkk8⟩ := hrel
          clear HFF HKww HKr HKwB Hsl0 HbR HbW HcurW6 HcurW Hal0 Hkk7 Hrs
          by_cases htl : t < turns.length
          · obtain ⟨b9, off9, cp9, e1, hKb9, x0⟩ := Hsc.out.getP t turns[t] (List.getElem?_eq_getElem htl)
            injection e1 with e1 _ e2
            subst e1 e2
            have y0 := (World.cell?_of_block (a := ⟨b9, off9 + t, none⟩) (hkk8.block b9 hKb9)).trans x0
            have hux := HU.out turns[t] (List.getElem_mem htl)
            generalize turns[t] = tv at *
            obtain ⟨ux0, ux1⟩ := hux
            have htl' : (t : Int) < (turns.length : Int) := by omega
            clear x0
            have HF8 := hid hF8
            have HKw8 := hid hKw8
            have HKr8 := hid hKr8
            have HKb8 := hid hKb8
            have Hsl8 := hid hsl8
            have HbR8 := hid hbR8
            have HbW8 := hid hbW8
            have Hcw8 := hid hcw8
            have Hal8 := hid hal8
            have Hkk8 := hid hkk8
            have HLr := hid hLr
            clear hF8 hKw8 hKr8 hKb8 hsl8 hbR8 hbW8 hcw8 hal8 hkk8 hLr
            by_cases h250 : 250 < t
            · have h250' : (250 : Int) < (t : Int) := by omega
              go_wp2_with fail
              exact hR'.out _ _ ⟨rfl, Hkk8.out⟩
            · have h250' : (t : Int) ≤ 250 := by omega
              obtain ⟨j, hj⟩ : ∃ j : Nat, tv % (kn : Int) = (j : Int) := ⟨(tv % (kn : Int)).toNat, by rw [Int.toNat_of_nonneg (Int.emod_nonneg _ (by omega))]⟩
              have hjk : j < kn := by have := Int.emod_lt_of_pos tv hkI; omega
              obtain ⟨x, hx⟩ : ∃ x, L8[j]? = some x := ⟨_, List.getElem?_eq_getElem (by have h9 : L8.length = kn := (by rw [← hrsn, ← HLr.out, List.length_map]); omega)⟩
              obtain ⟨p, hp⟩ : ∃ p, ps[j]? = some p := ⟨_, List.getElem?_eq_getElem (by omega)⟩
              obtain ⟨q, hq⟩ : ∃ q, l[j]? = some q := ⟨_, List.getElem?_eq_getElem (by omega)⟩
              have hcell := Hcw8.out j p q hp hq
              have hal := Hal8.out j x p q hx hp hq
              have hokq := Hok.out q (List.mem_of_getElem? hq)
              have hslq : SlAt w8 (· < ws) 3 (.slice q.A (q.l.take 60).length q.cap) (q.l.take 60).length ((q.l.take 60).flatMap InsM.cells) := by
                have h1 := hokq.2
                unfold PIn.v at h1
                have h2 := (h1.cut).keep (K := fun b => b < w.heap.size) (L := fun b => b < ws) Hkk8.out (fun b hb => by have h3 := Hws.out; have hb' : b < w.heap.size := hb; omega)
                rw [show min q.l.length 60 = (q.l.take 60).length by rw [List.length_take, Nat.min_comm]] at h2
                exact h2.mono (fun b hb => by have h3 := Hws.out; have hb' : b < w.heap.size := hb; omega)
              have hwfq : ∀ a ∈ q.l.take 60, a.wf := fun a ha => hokq.1 a (List.mem_of_mem_take ha)
              have hl60 : (q.l.take 60).length ≤ 60 := by rw [List.length_take]; omega
              have hrx : rs[j]? = some x.r := by rw [← HLr.out, List.getElem?_map, hx]; rfl
              have hrc := (HbR8.out.cell j).trans (HrR.out j x.r hrx)
              generalize hql : q.l.take 60 = ql at *
              obtain ⟨pl, pat, plast, pover, perr, pmade⟩ := p
              have hple : pl = ql := hal.list
              subst hple
              have hstep := alike_any hal hl60 HF8.out.mem.range
              have hplen : ∀ u, u < 6 → j * 6 + u < cur.length := fun u hu => by omega
              have c0 := (HbW8.out.cell (j * 6)).trans (hcell 0 (by decide))
              have c1 := (HbW8.out.cell (j * 6 + 1)).trans (hcell 1 (by decide))
              have c2 := (HbW8.out.cell (j * 6 + 2)).trans (hcell 2 (by decide))
              have c3 := (HbW8.out.cell (j * 6 + 3)).trans (hcell 3 (by decide))
              have c4 := (HbW8.out.cell (j * 6 + 4)).trans (hcell 4 (by decide))
              have c5 := (HbW8.out.cell (j * 6 + 5)).trans (hcell 5 (by decide))
              simp only [ProgM.vals, List.getElem?_cons_zero, List.getElem?_cons_succ] at c0 c1 c2 c3 c4 c5
              have i1 : (j : Int) < (kn : Int) := by omega
              have hsl8' := Hsl8.out
              rw [← hμl] at hsl8'
              have hcon := pstep_call (w := w8) (K := fun b => b < ws) (KC := fun b => K8 b ∧ b ≠ wB) ⟨pl, pat, plast, pover, perr, pmade⟩ q.A q.cap (.slice A8 (1 + n) cp8) μ.cells hslq (fun b hb => HF8.out.lt b (HKw8.out b hb)) hal.le hal.last hal.made_le hwfq
                (by rw [← hμl]; exact hsl8') (fun b hb => HF8.out.lt b hb.1) HF8.out.mem.range (by omega)
              obtain ⟨hal', hcs'⟩ := hstep
              have hlen' := ProgM.step_len ⟨pl, pat, plast, pover, perr, pmade⟩ μ.cells
              generalize hSt : (⟨x.s, μ⟩ : St).stepP (progT pl 0 0) = S' at *
              have HSt := hid hSt
              clear hSt
              generalize hps : ProgM.step ⟨pl, pat, plast, pover, perr, pmade⟩ μ.cells = pn at *
              obtain ⟨⟨pl', pat', plast', pover', perr', pmade'⟩, cs'⟩ := pn
              have hple' : pl' = pl := hal'.list
              subst hple'
              simp only at hcon hlen' hcs'
              rw [hμl] at hcon hlen'
              have hlog := hal.made
              have Hcon := hid hcon
              have Hcell := hid hcell
              have Hal := hid hal
              have Hslq := hid hslq
              have Hwfq := hid hwfq
              have Hal' := hid hal'
              have Hcs' := hid hcs'
              have Hlen' := hid hlen'
              have Hql := hid hql
              have Hps := hid hps
              have Hl60 := hid hl60
              have Hlog := hid hlog
              clear hcon hcell hal hslq hwfq hal' hcs' hlen' hql hps hl60 hlog
              clear hsl8' hokq hp
              go_wp2_with fail
              refine Hcon.out.mono ?_
              rintro e w9 ⟨vc', rfl, hsl9, hk9⟩
              obtain ⟨A9, cp9, rfl, hf91, hf92⟩ := hsl9.form
              have hF9a := HF8.out.below hk9
              have hsl9b := hsl9.bound
              have hF9 : FamS w9 (fun b => K8 b ∨ (w8.heap.size ≤ b ∧ b < w9.heap.size)) (ws + 1) ws μ L8 := by
                refine hF9a.more ?_ ?_ ?_ ?_
                · rintro b (e | e)
                  · exact hF9a.lt b e
                  · exact e.2
                · rintro (e | e)
                  · exact hF9a.km e
                  · have := HF8.out.mem.obj.lt; omega
                · rintro (e | e)
                  · exact hF9a.kc e
                  · have := HF8.out.mem.cells.lt; omega
                · rintro i' x' hx' b hb (e | e)
                  · exact ((hF9a.all i' x' hx').fp_no b hb).1 (Or.inl e)
                  · have := (HF8.out.all i' x' hx').fp_lt b hb; omega
              have hwl8 := HbW8.out.lt
              have hsl9c : SlAt w9 (fun b => (fun b => K8 b ∨ (w8.heap.size ≤ b ∧ b < w9.heap.size)) b ∧ b ≠ wB) 1 (.slice A9 (1 + n) cp9) (1 + n) (cs'.map (Value.int .u32)) := hsl9b.mono (fun b hb => by rcases hb.1 with h | h; exact ⟨Or.inl h.1, h.2⟩; exact ⟨Or.inr ⟨h, hb.2⟩, by omega⟩)
              have hbW9 := HbW8.out.keep hk9 HbW8.out.lt
              have hbR9 := HbR8.out.keep hk9 HbR8.out.lt
              have hkk9 := Hkk8.out.trans (hk9.mono fun b hb => HF8.out.lt b (HKw8.out b hb))
              have hrl := HbR8.out.lt
              have c0 := (hbW9.cell (j * 6)).trans (Hcell.out 0 (by decide))
              have c1 := (hbW9.cell (j * 6 + 1)).trans (Hcell.out 1 (by decide))
              have c2 := (hbW9.cell (j * 6 + 2)).trans (Hcell.out 2 (by decide))
              have c3 := (hbW9.cell (j * 6 + 3)).trans (Hcell.out 3 (by decide))
              have c4 := (hbW9.cell (j * 6 + 4)).trans (Hcell.out 4 (by decide))
              have c5 := (hbW9.cell (j * 6 + 5)).trans (Hcell.out 5 (by decide))
              simp only [ProgM.vals, List.getElem?_cons_zero, List.getElem?_cons_succ] at c0 c1 c2 c3 c4 c5
              have fw := hbW9.free
              clear hsl9 hsl9b hF9a hf91
              have hslq9 := Hslq.out.keep hk9 (fun b hb => HF8.out.lt b (HKw8.out b hb))
              generalize hK9 : (fun b => K8 b ∨ (w8.heap.size ≤ b ∧ b < w9.heap.size)) = K9 at *
              have hKw9 : ∀ b, b < ws → K9 b := fun b hb => by rw [← hK9]; exact Or.inl (HKw8.out b hb)
              have hKr9 : K9 rB := by rw [← hK9]; exact Or.inl HKr8.out
              have hKb9 : K9 wB := by rw [← hK9]; exact Or.inl HKb8.out
              have hkst : ∀ W : World, Keeps (fun b => b ≠ wB) w9 W → FamS W K9 (ws + 1) ws μ L8 ∧ Blk W rB curR.toList ∧ SlAt W (fun b => b < ws) 3 (.slice q.A pl'.length q.cap) pl'.length (pl'.flatMap InsM.cells) ∧ Keeps (· < ws) w W := fun W hW =>
                ⟨hF9.keep hW (fun e => hF9.km (e ▸ hKb9)) (fun e => hF9.kc (e ▸ hKb9)) (fun i' x' hx' b hb e => ((hF9.all i' x' hx').fp_no b hb).1 (Or.inl (e ▸ hKb9))), hbR9.keep hW Hrw.out, hslq9.keep hW (fun b hb e => by have := HwBs.out; omega), hkk9.trans (hW.mono fun b hb e => by have := HwBs.out; have hb' : b < ws := hb; omega)⟩
              clear hk9 hK9 HF8 HKw8 HKr8 HKb8 Hsl8 HbR8 HbW8 Hkk8 Hslq Hcon hF9 hbR9 hkk9 hslq9
              have HbW9 := hid hbW9
              have Hkst := hid hkst
              have HKw9 := hid hKw9
              have HKr9 := hid hKr9
              have HKb9 := hid hKb9
              have Hsl9c := hid hsl9c
              clear hbW9 hkst hKw9 hKr9 hKb9 hsl9c
              go_wp2_with fail
              refine wp_gen (fun W => (FamS W K9 (ws + 1) ws μ L8 ∧ Blk W rB curR.toList ∧ SlAt W (fun b => b < ws) 3 (.slice q.A pl'.length q.cap) pl'.length (pl'.flatMap InsM.cells) ∧ Keeps (· < ws) w W) ∧ SlAt W (fun b => K9 b ∧ b ≠ wB) 1 (.slice A9 (1 + n) cp9) (1 + n) (cs'.map (Value.int .u32)) ∧
                Blk W wB ((((((cur.set (j * 6) (.slice q.A pl'.length q.cap)).set (j * 6 + 1) (.int .i64 pat')).set (j * 6 + 2) (.int .u32 plast')).set (j * 6 + 3) (.bool pover')).set (j * 6 + 4) (.int .i64 perr')).set (j * 6 + 5) (.int .i64 pmade'))) ⟨?_, ?_, ?_⟩ ?_
              · refine Hkst.out _ ?_
                repeat (first | with_reducible exact Keeps.refl _ _ | with_reducible refine Keeps.setCell ?_ ?_ _)
                all_goals (simp; done)
              · refine Hsl9c.out.keep (L := fun b => b ≠ wB) ?_ (fun b hb => hb.2)
                repeat (first | with_reducible exact Keeps.refl _ _ | with_reducible refine Keeps.setCell ?_ ?_ _)
                all_goals (simp; done)
              · exact (((((HbW9.out.set (j * 6) _).set (j * 6 + 1) _).set (j * 6 + 2) _).set (j * 6 + 3) _).set (j * 6 + 4) _).set (j * 6 + 5) _
              clear c0 c1 c2 c3 c4 c5 fw HbW9 Hkst Hsl9c hrc y0
              rintro W10 ⟨⟨hF, hbR, hslq, hkk⟩, hsl, hbW⟩
              have d0 := hbW.cell (j * 6)
              have d3 := hbW.cell (j * 6 + 3)
              have d4 := hbW.cell (j * 6 + 4)
              have d5 := hbW.cell (j * 6 + 5)
              have hj0 : j * 6 + 5 < cur.length := by omega
              rw [get6_0 _ _ _ _ _ _ _ _ hj0] at d0
              rw [get6_3 _ _ _ _ _ _ _ _ hj0] at d3
              rw [get6_4 _ _ _ _ _ _ _ _ hj0] at d4
              rw [get6_5 _ _ _ _ _ _ _ _ hj0] at d5
              have hrc := (hbR.cell j).trans (HrR.out j x.r hrx)
              have ho : S'.r.over = pover' := Hal'.out.over.symm
              have he : S'.r.err = perr' := Hal'.out.err.symm
              have hmd : (S'.r.log.length : Int) = (pmade' : Int) := by have := Hal'.out.made; simp only at this; omega
              have hlen0 : x.s.log.length < 1099511627776 := by have h1 := Hlog.out; have h2 := Hal.out.made_le; have h3 := Hal.out.le; have h4 := Hl60.out; simp only at h1 h2 h3; omega
              have hSP : ∀ W : World, Keeps (fun _ => True) W10 W → Calls Try.prog 19 #[.pointer (some ⟨x.r, 0, none⟩), .func (.func 53) #[] #[.pointer (some ⟨W.heap.size, 0, none⟩)]] (W.alloc (.cells #[.slice q.A pl'.length q.cap] 22)) fun e w' =>
                  e = .returned (.bool pover') ∧ RM w' (othersS K9 L8 j) x.r (ws + 1) ws S' ∧ Keeps (othersS K9 L8 j) W w' := by
                intro W hW
                have h1 := step_fresh ((hF.keep hW trivial trivial (fun _ _ _ _ _ => trivial)).rm hx) hlen0 (.slice q.A pl'.length q.cap) pl' Hwfq.out ((hslq.keep hW (fun _ _ => trivial)).mono (fun b hb => Or.inl (HKw9.out b hb)))
                have h2 := HSt.out
                rw [h2, ho] at h1
                exact h1
              have hRun : ∀ w12 W : World, RM w12 (othersS K9 L8 j) x.r (ws + 1) ws S' → Keeps (fun _ => True) w12 W → ∃ g, RunAt W x.r (ws + 1) g S'.r := fun w12 W h hk => by
                obtain ⟨g, h1, _⟩ := h.run
                exact ⟨g, h1.keep hk trivial (fun _ _ => trivial)⟩
              have hOv : ∀ w12 W : World, RM w12 (othersS K9 L8 j) x.r (ws + 1) ws S' → Keeps (fun _ => True) w12 W → Calls Try.prog 18 #[.pointer (some ⟨x.r, 0, none⟩)] W fun e w' => e = .returned (.bool pover') ∧ W = w' := fun w12 W h hk => by
                obtain ⟨g, h1⟩ := hRun w12 W h hk
                have h2 := run_over h1
                rw [ho] at h2; exact h2
              have hEr : ∀ w12 W : World, RM w12 (othersS K9 L8 j) x.r (ws + 1) ws S' → Keeps (fun _ => True) w12 W → Calls Try.prog 24 #[.pointer (some ⟨x.r, 0, none⟩)] W fun e w' => e = .returned (.int .i64 perr') ∧ W = w' := fun w12 W h hk => by
                obtain ⟨g, h1⟩ := hRun w12 W h hk
                have h2 := run_err h1
                rw [he] at h2; exact h2
              have hCt : ∀ w12 W : World, RM w12 (othersS K9 L8 j) x.r (ws + 1) ws S' → Keeps (fun _ => True) w12 W → Calls Try.prog 22 #[.pointer (some ⟨x.r, 0, none⟩)] W fun e w' => e = .returned (.int .i64 pmade') ∧ W = w' := fun w12 W h hk => by
                obtain ⟨g, h1⟩ := hRun w12 W h hk
                have h2 := run_count h1
                rw [hmd] at h2; exact h2
              have hCe : ∀ w12 W : World, RM w12 (othersS K9 L8 j) x.r (ws + 1) ws S' → Keeps (fun _ => True) w12 W → Calls Try.prog 27 #[.pointer (some ⟨ws + 1, 0, none⟩)] W fun e w' =>
                  e = .returned (.slice (some ⟨W.heap.size, 0, none⟩) (1 + n) (1 + n)) ∧ Blk w' W.heap.size (cs'.map (Value.int .u32)) ∧ Keeps (· < W.heap.size) W w' := fun w12 W h hk => by
                have h2 := mem_cells (h.mem.keep hk trivial trivial)
                have h3 := Hcs'.out
                have h4 := Hlen'.out
                rw [h3, h4] at h2
                exact h2
              have hSa : ∀ (W : World) (nb : Nat), Blk W nb (cs'.map (Value.int .u32)) → SlAt W (fun _ => True) 1 (.slice A9 (1 + n) cp9) (1 + n) (cs'.map (Value.int .u32)) → Calls Try.prog 26 #[.slice (some ⟨nb, 0, none⟩) (1 + n) (1 + n), .slice A9 (1 + n) cp9] W fun e w' => e = .returned (.bool true) ∧ ∃ nd, W.drewN nd = w' := fun W nb h1 h2 => by
                have h4 := Hlen'.out
                have h3 := SlAt.of_blk (K := fun _ => True) h1 trivial (by rw [List.length_map, h4]; unfold maxLen; omega)
                rw [List.length_map, h4] at h3
                have h5 := same_any (xs := cs') (ys := cs') (by rw [h4]; exact h3) (by rw [h4]; exact h2)
                rw [decide_eq_true (rfl : cs' = cs')] at h5
                exact h5
              have hQQ : ∀ b, K9 b → othersS K9 L8 j b := fun b hb => Or.inl hb
              have hrl10 := hbR.lt
              have hwl10 := hbW.lt
              have hSk : ∀ (K : Nat → Prop) (W W' : World), Keeps K W W' → K rB → K wB → (W.cell? ⟨rB, j, none⟩ = some (.pointer (some ⟨x.r, 0, none⟩)) ∧ W.cell? ⟨wB, j * 6, none⟩ = some (.slice q.A pl'.length q.cap) ∧ W.cell? ⟨wB, j * 6 + 3, none⟩ = some (.bool pover') ∧ W.cell? ⟨wB, j * 6 + 4, none⟩ = some (.int .i64 perr') ∧ W.cell? ⟨wB, j * 6 + 5, none⟩ = some (.int .i64 pmade')) → (W'.cell? ⟨rB, j, none⟩ = some (.pointer (some ⟨x.r, 0, none⟩)) ∧ W'.cell? ⟨wB, j * 6, none⟩ = some (.slice q.A pl'.length q.cap) ∧ W'.cell? ⟨wB, j * 6 + 3, none⟩ = some (.bool pover') ∧ W'.cell? ⟨wB, j * 6 + 4, none⟩ = some (.int .i64 perr') ∧ W'.cell? ⟨wB, j * 6 + 5, none⟩ = some (.int .i64 pmade')) := fun K W W' hk h1 h2 ⟨e0, e1, e2, e3, e4⟩ =>
                ⟨(World.cell?_of_block (a := ⟨rB, _, none⟩) (hk.block rB h1)).trans e0, (World.cell?_of_block (a := ⟨wB, _, none⟩) (hk.block wB h2)).trans e1, (World.cell?_of_block (a := ⟨wB, _, none⟩) (hk.block wB h2)).trans e2, (World.cell?_of_block (a := ⟨wB, _, none⟩) (hk.block wB h2)).trans e3, (World.cell?_of_block (a := ⟨wB, _, none⟩) (hk.block wB h2)).trans e4⟩
              have hS10 : W10.cell? ⟨rB, j, none⟩ = some (.pointer (some ⟨x.r, 0, none⟩)) ∧ W10.cell? ⟨wB, j * 6, none⟩ = some (.slice q.A pl'.length q.cap) ∧ W10.cell? ⟨wB, j * 6 + 3, none⟩ = some (.bool pover') ∧ W10.cell? ⟨wB, j * 6 + 4, none⟩ = some (.int .i64 perr') ∧ W10.cell? ⟨wB, j * 6 + 5, none⟩ = some (.int .i64 pmade') := ⟨hrc, d0, d3, d4, d5⟩
              have hSal : ∀ (W : World) (o : Obj), rB < W.heap.size → wB < W.heap.size → (W.cell? ⟨rB, j, none⟩ = some (.pointer (some ⟨x.r, 0, none⟩)) ∧ W.cell? ⟨wB, j * 6, none⟩ = some (.slice q.A pl'.length q.cap) ∧ W.cell? ⟨wB, j * 6 + 3, none⟩ = some (.bool pover') ∧ W.cell? ⟨wB, j * 6 + 4, none⟩ = some (.int .i64 perr') ∧ W.cell? ⟨wB, j * 6 + 5, none⟩ = some (.int .i64 pmade')) → ((W.alloc o).cell? ⟨rB, j, none⟩ = some (.pointer (some ⟨x.r, 0, none⟩)) ∧ (W.alloc o).cell? ⟨wB, j * 6, none⟩ = some (.slice q.A pl'.length q.cap) ∧ (W.alloc o).cell? ⟨wB, j * 6 + 3, none⟩ = some (.bool pover') ∧ (W.alloc o).cell? ⟨wB, j * 6 + 4, none⟩ = some (.int .i64 perr') ∧ (W.alloc o).cell? ⟨wB, j * 6 + 5, none⟩ = some (.int .i64 pmade')) := fun W o h1 h2 h => hSk (· < W.heap.size) W _ ((Keeps.refl _ _).alloc (fun b hb => hb) o) h1 h2 h
              have hSb : ∀ wb : World, Keeps (othersS K9 L8 j) W10.drew wb → (wb.cell? ⟨rB, j, none⟩ = some (.pointer (some ⟨x.r, 0, none⟩)) ∧ wb.cell? ⟨wB, j * 6, none⟩ = some (.slice q.A pl'.length q.cap) ∧ wb.cell? ⟨wB, j * 6 + 3, none⟩ = some (.bool pover') ∧ wb.cell? ⟨wB, j * 6 + 4, none⟩ = some (.int .i64 perr') ∧ wb.cell? ⟨wB, j * 6 + 5, none⟩ = some (.int .i64 pmade')) := fun wb hk => hSk _ W10.drew wb hk (hQQ rB HKr9.out) (hQQ wB HKb9.out) hS10
              have hSc : ∀ wb W we : World, Keeps (othersS K9 L8 j) W10.drew wb → Keeps (fun _ => True) wb W → Keeps (· < W.heap.size) W we → (we.cell? ⟨rB, j, none⟩ = some (.pointer (some ⟨x.r, 0, none⟩)) ∧ we.cell? ⟨wB, j * 6, none⟩ = some (.slice q.A pl'.length q.cap) ∧ we.cell? ⟨wB, j * 6 + 3, none⟩ = some (.bool pover') ∧ we.cell? ⟨wB, j * 6 + 4, none⟩ = some (.int .i64 perr') ∧ we.cell? ⟨wB, j * 6 + 5, none⟩ = some (.int .i64 pmade')) := fun wb W we h1 h2 h3 =>
                hSk _ W we h3 (by have := h1.size; have := h2.size; show rB < _; simp only [World.size_drew] at *; omega) (by have := h1.size; have := h2.size; show wB < _; simp only [World.size_drew] at *; omega) (hSk _ wb W h2 trivial trivial (hSb wb h1))
              have hS11 := hSal W10.drew (.cells #[.slice q.A pl'.length q.cap] 22) hrl10 hwl10 hS10
              obtain ⟨z0, z1, z2, z3, z4⟩ := hS11
              have hSlA : ∀ wb W we : World, Keeps (othersS K9 L8 j) W10.drew wb → Keeps (fun _ => True) wb W → Keeps (· < W.heap.size) W we → SlAt we (fun _ => True) 1 (.slice A9 (1 + n) cp9) (1 + n) (cs'.map (Value.int .u32)) := fun wb W we h1 h2 h3 =>
                ((((hsl.keep (L := othersS K9 L8 j) (w' := wb) ⟨h1.os, h1.tape, h1.output, h1.size, h1.block⟩ (fun b hb => hQQ b hb.1)).keep h2 (fun _ _ => trivial)).keep (L := fun b => b < W.heap.size) h3 (fun b hb => by have e1 := hF.olt j b (hQQ b hb.1); have := h1.size; have := h2.size; simp only [World.size_drew] at *; omega))).mono (fun _ _ => trivial)
              have hFin : ∀ wb Wf : World, RM wb (othersS K9 L8 j) x.r (ws + 1) ws S' → Keeps (othersS K9 L8 j) W10.drew wb → Keeps (· < wb.heap.size) wb Wf → ∃ g', FamS Wf K9 (ws + 1) ws S'.m (L8.set j ⟨x.r, g', S'.r⟩) ∧ SlAt Wf (fun b => K9 b ∧ b ≠ wB) 1 (.slice A9 (1 + n) cp9) (1 + n) (S'.m.cells.map (Value.int .u32)) ∧ Blk Wf rB curR.toList ∧
                  Blk Wf wB ((((((cur.set (j * 6) (.slice q.A pl'.length q.cap)).set (j * 6 + 1) (.int .i64 pat')).set (j * 6 + 2) (.int .u32 plast')).set (j * 6 + 3) (.bool pover')).set (j * 6 + 4) (.int .i64 perr')).set (j * 6 + 5) (.int .i64 pmade')) ∧ Keeps (· < ws) w Wf := fun wb Wf h1 h2 h3 => by
                have e1 := hF.keep ((Keeps.refl (fun _ => True) W10).drew) trivial trivial (fun _ _ _ _ _ => trivial)
                obtain ⟨g', e2⟩ := e1.step hx h1 h2
                have e3 := e2.below h3
                have e4 : Keeps (othersS K9 L8 j) W10 wb := ⟨h2.os, h2.tape, h2.output, h2.size, h2.block⟩
                have e5 : ∀ b, othersS K9 L8 j b → b < wb.heap.size := fun b hb => by have := hF.olt j b hb; have := e4.size; omega
                have e6 : Keeps (othersS K9 L8 j) W10 Wf := e4.trans (h3.mono e5)
                have e7 := Hcs'.out
                exact ⟨g', e3, by rw [e7]; exact hsl.keep e6 (fun b hb => hQQ b hb.1), hbR.keep e6 (hQQ rB HKr9.out), hbW.keep e6 (hQQ wB HKb9.out), hkk.trans (e6.mono fun b hb => hQQ b (HKw9.out b hb))⟩
              have hRs' : ∀ g', (L8.set j ⟨x.r, g', S'.r⟩).map (·.r) = rs := fun g' => by
                rw [List.map_set]
                show (L8.map (·.r)).set j x.r = rs
                rw [HLr.out]
                obtain ⟨hlt9, e9⟩ := List.getElem?_eq_some_iff.1 hrx
                rw [← e9, List.set_getElem_self]
              have hCw' : ∀ (j' : Nat) (p : ProgM) (q' : PIn), (ps.set j ⟨pl', pat', plast', pover', perr', pmade'⟩)[j']? = some p → l[j']? = some q' → ∀ t, t < 6 → (((((((cur.set (j * 6) (.slice q.A pl'.length q.cap)).set (j * 6 + 1) (.int .i64 pat')).set (j * 6 + 2) (.int .u32 plast')).set (j * 6 + 3) (.bool pover')).set (j * 6 + 4) (.int .i64 perr')).set (j * 6 + 5) (.int .i64 pmade')))[j' * 6 + t]? = (ProgM.vals p (.slice q'.A (q'.l.take 60).length q'.cap))[t]? := by
                intro j' p q' hp' hq' t' ht'
                by_cases hjj : j' = j
                · subst hjj
                  rw [List.getElem?_set_self (by omega)] at hp'
                  injection hp' with hp'
                  subst hp'
                  rw [hq] at hq'
                  injection hq' with hq'
                  subst hq'
                  have e9 := Hql.out
                  rw [e9]
                  rcases (by omega : t' = 0 ∨ t' = 1 ∨ t' = 2 ∨ t' = 3 ∨ t' = 4 ∨ t' = 5) with rfl | rfl | rfl | rfl | rfl | rfl
                  · exact get6_0 _ _ _ _ _ _ _ _ hj0
                  · exact get6_1 _ _ _ _ _ _ _ _ hj0
                  · exact get6_2 _ _ _ _ _ _ _ _ hj0
                  · exact get6_3 _ _ _ _ _ _ _ _ hj0
                  · exact get6_4 _ _ _ _ _ _ _ _ hj0
                  · exact get6_5 _ _ _ _ _ _ _ _ hj0
                · rw [List.getElem?_set_ne (fun e => hjj e.symm)] at hp'
                  rw [get6_ne _ _ _ _ _ _ _ _ _ (by omega)]
                  exact Hcw8.out j' p q' hp' hq' t' ht'
              have hAl' : ∀ (g' : Value) (j' : Nat) (x' : OneS) (p : ProgM) (q' : PIn), (L8.set j ⟨x.r, g', S'.r⟩)[j']? = some x' → (ps.set j ⟨pl', pat', plast', pover', perr', pmade'⟩)[j']? = some p → l[j']? = some q' → Alike (q'.l.take 60) ⟨x'.s, S'.m⟩ p := by
                intro g' j' x' p q' hx' hp' hq'
                by_cases hjj : j' = j
                · subst hjj
                  rw [List.getElem?_set_self (by omega)] at hp'
                  injection hp' with hp'
                  subst hp'
                  rw [List.getElem?_set_self (List.getElem?_eq_some_iff.1 hx).1] at hx'
                  injection hx' with hx'
                  subst hx'
                  rw [hq] at hq'
                  injection hq' with hq'
                  subst hq'
                  have e9 := Hql.out
                  rw [e9]
                  exact Hal'.out
                · rw [List.getElem?_set_ne (fun e => hjj e.symm)] at hp' hx'
                  exact (Hal8.out j' x' p q' hx' hp' hq').mem S'.m
              have hcl' : S'.m.cells.length = 1 + n := by rw [Hcs'.out]; exact Hlen'.out
              have hcl6 : kn * 6 ≤ (((((((cur.set (j * 6) (.slice q.A pl'.length q.cap)).set (j * 6 + 1) (.int .i64 pat')).set (j * 6 + 2) (.int .u32 plast')).set (j * 6 + 3) (.bool pover')).set (j * 6 + 4) (.int .i64 perr')).set (j * 6 + 5) (.int .i64 pmade'))).length := by simpa using hcl8
              have ht1 : t + 1 ≤ turns.length := by omega
              have hRel : ∀ wb Wf : World, RM wb (othersS K9 L8 j) x.r (ws + 1) ws S' → Keeps (othersS K9 L8 j) W10.drew wb → Keeps (· < wb.heap.size) wb Wf → ∃ (t1 : Nat) (K8 : Nat → Prop) (L8 : List OneS) (ps : List ProgM) (μ : MemS) (cur : List Value) (A8 : Option Addr) (cp8 : Nat), Value.int .i64 ((t : Int) + 1) = .int .i64 t1 ∧ t1 ≤ turns.length ∧ L8.map (·.r) = rs ∧ ps.length = kn ∧ Value.slice A9 (1 + n) cp9 = .slice A8 (1 + n) cp8 ∧ μ.cells.length = 1 + n ∧
          FamS Wf K8 (ws + 1) ws μ L8 ∧ (∀ b, b < ws → K8 b) ∧ K8 rB ∧ K8 wB ∧ SlAt Wf (fun b => K8 b ∧ b ≠ wB) 1 (.slice A8 (1 + n) cp8) (1 + n) (μ.cells.map (Value.int .u32)) ∧ Blk Wf rB curR.toList ∧ Blk Wf wB cur ∧ kn * 6 ≤ cur.length ∧
          (∀ (j : Nat) (p : ProgM) (q : PIn), ps[j]? = some p → l[j]? = some q → ∀ t, t < 6 → cur[j * 6 + t]? = (ProgM.vals p (.slice q.A (q.l.take 60).length q.cap))[t]?) ∧
          (∀ (j : Nat) (x : OneS) (p : ProgM) (q : PIn), L8[j]? = some x → ps[j]? = some p → l[j]? = some q → Alike (q.l.take 60) ⟨x.s, μ⟩ p) ∧ Keeps (· < ws) w Wf := fun wb Wf k1 k2 k3 => by
                obtain ⟨g', f1, f2, f3, f4, f5⟩ := hFin wb Wf k1 k2 k3
                exact ⟨t + 1, K9, L8.set j ⟨x.r, g', S'.r⟩, ps.set j ⟨pl', pat', plast', pover', perr', pmade'⟩, S'.m, ((((((cur.set (j * 6) (.slice q.A pl'.length q.cap)).set (j * 6 + 1) (.int .i64 pat')).set (j * 6 + 2) (.int .u32 plast')).set (j * 6 + 3) (.bool pover')).set (j * 6 + 4) (.int .i64 perr')).set (j * 6 + 5) (.int .i64 pmade')), A9, cp9, by go_num, ht1, hRs' g', by rw [List.length_set]; exact hpl, rfl, hcl', f1, HKw9.out, HKr9.out, HKb9.out, f2, f3, f4, hcl6, hCw', hAl' g', f5⟩
              clear hRun hSal hSk hS10 hFin hRs' hCw' hAl' hcl' hcl6 ht1
              have HSP := hid hSP
              have HOv := hid hOv
              have HEr := hid hEr
              have HCt := hid hCt
              have HCe := hid hCe
              have HSa := hid hSa
              have Ho := hid ho
              have He := hid he
              have Hmd := hid hmd
              have HQQ := hid hQQ
              have HF := hid hF
              have HbR := hid hbR
              have Hslq := hid hslq
              have Hkk := hid hkk
              have Hsl := hid hsl
              have HbW := hid hbW
              have HSb := hid hSb
              have HSc := hid hSc
              have HSlA := hid hSlA
              have HRel := hid hRel
              clear hSP hOv hEr hCt hCe hSa ho he hmd hQQ hF hbR hslq hkk hsl hbW hSb hSc hSlA hRel
              clear Ho He Hmd HQQ HF HbR Hslq Hkk Hsl HbW Hcs' Hlen' Hal Hal' Hps Hl60 Hlog Hcell Hql Hwfq HSt Hcw8 Hal8 HKw9 HKr9 HKb9 HLr
              go_region_held3 (fun w' => w'.cell? ⟨rB, j, none⟩ = some (.pointer (some ⟨x.r, 0, none⟩)) ∧ w'.cell? ⟨wB, j * 6, none⟩ = some (.slice q.A pl'.length q.cap) ∧ w'.cell? ⟨wB, j * 6 + 3, none⟩ = some (.bool pover') ∧ w'.cell? ⟨wB, j * 6 + 4, none⟩ = some (.int .i64 perr') ∧ w'.cell? ⟨wB, j * 6 + 5, none⟩ = some (.int .i64 pmade')) (go_keep)
                (first
                  | (go_at_call 20; refine (program_any _ q.A pl'.length q.cap rfl _).mono ?_; rintro e wa ⟨rfl, rfl⟩)
                  | (go_at_call 19; refine (HSP.out W10.drew (Keeps.refl _ _).drew).mono ?_; rintro e wb ⟨rfl, hRb, hKb⟩; obtain ⟨q0, q1, q2, q3, q4⟩ := HSb.out _ hKb)
                  | (go_at_call 18; refine (HOv.out _ _ hRb (by first | exact Keeps.refl _ _ | exact (Keeps.refl _ _).drew | exact (Keeps.refl _ _).drew.drew | exact (Keeps.refl _ _).drew.drew.drew)).mono ?_; rintro e wc ⟨rfl, rfl⟩)
                  | (go_at_call 24; refine (HEr.out _ _ hRb (by first | exact Keeps.refl _ _ | exact (Keeps.refl _ _).drew | exact (Keeps.refl _ _).drew.drew | exact (Keeps.refl _ _).drew.drew.drew)).mono ?_; rintro e wc ⟨rfl, rfl⟩)
                  | (go_at_call 22; refine (HCt.out _ _ hRb (by first | exact Keeps.refl _ _ | exact (Keeps.refl _ _).drew | exact (Keeps.refl _ _).drew.drew | exact (Keeps.refl _ _).drew.drew.drew)).mono ?_; rintro e wc ⟨rfl, rfl⟩)
                  | (go_at_call 27; refine (HCe.out _ _ hRb (by first | exact Keeps.refl _ _ | exact (Keeps.refl _ _).drew | exact (Keeps.refl _ _).drew.drew | exact (Keeps.refl _ _).drew.drew.drew)).mono ?_; rintro e we ⟨rfl, hBe, hKe⟩; obtain ⟨p0, p1, p2, p3, p4⟩ := HSc.out _ _ _ hKb (by first | exact Keeps.refl _ _ | exact (Keeps.refl _ _).drew | exact (Keeps.refl _ _).drew.drew | exact (Keeps.refl _ _).drew.drew.drew) hKe)
                  | (go_at_call 26; refine (HSa.out _ _ ?_ ?_).mono ?_; exact hBe; exact HSlA.out _ _ _ hKb (by first | exact Keeps.refl _ _ | exact (Keeps.refl _ _).drew | exact (Keeps.refl _ _).drew.drew | exact (Keeps.refl _ _).drew.drew.drew) hKe; rintro e wf ⟨rfl, nd, rfl⟩))
              go_wp2_with fail
              go_roundw
              case rel =>
                refine HRel.out _ _ hRb hKb ?_
                repeat (first | with_reducible refine Keeps.drew ?_ | with_reducible refine Keeps.drewN ?_ _)
                first | exact ((Keeps.refl _ _).trans hKe) | exact (((Keeps.refl _ _).drew).trans hKe) | exact (((Keeps.refl _ _).drew.drew).trans hKe) | exact (((Keeps.refl _ _).drew.drew.drew).trans hKe)
              case measure => simp [intOf]; omega
          · have htn : t = turns.length := by omega
            subst htn
            have Hkk8 := hid hkk8
            clear hkk8
            go_wp2_with fail
            exact hR'.out _ _ ⟨rfl, Hkk8.out⟩
end Go.Proofs.Ytjnaibmnpajfdaa
