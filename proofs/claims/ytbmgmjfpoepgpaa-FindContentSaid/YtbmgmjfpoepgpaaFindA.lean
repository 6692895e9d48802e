/- Contracts of package find: the reader's next byte, a number. -/
import Derived.Test.YtbmgmjfpoepgpaaRead
import Derived.Test.YtbmgmjfpoepgpaaFindP
import Derived.Deep.RegionHeld3
import Derived.Deep.DrawnRows
import Derived.Deep.QuietTactic
import Derived.BigQuiet
import Derived.WalkArith
namespace Go.Proofs.Ytbmgmjfpoepgpaa
open Go.RowKit

theorem bits_and_low (y : Int) (hy : U32 y) (k : Nat) (hk : k ≤ 32) : bits .and .u32 y ((2 : Int) ^ k - 1) = y % 2 ^ k := by
  obtain ⟨h0, h1⟩ := hy
  obtain ⟨y, rfl⟩ := Int.eq_ofNat_of_zero_le h0
  have hp : (2 : Int) ^ k - 1 = ((2 ^ k - 1 : Nat) : Int) := by
    have := Nat.one_le_two_pow (n := k)
    rw [Int.natCast_sub this]; simp
  have h32 : 2 ^ k ≤ 2 ^ 32 := Nat.pow_le_pow_right (by decide) hk
  have e1 : (BitVec.ofInt 32 (y : Int)).toNat = y := by rw [BitVec.toNat_ofInt]; omega
  have e2 : (BitVec.ofInt 32 ((2 ^ k - 1 : Nat) : Int)).toNat = 2 ^ k - 1 := by
    rw [BitVec.toNat_ofInt]
    generalize 2 ^ k = z at *
    omega
  have hm : y % 2 ^ k < 2 ^ 32 := Nat.lt_of_lt_of_le (Nat.mod_lt _ (Nat.two_pow_pos k)) h32
  show IntKind.u32.wrap ((BitVec.ofInt 32 (y : Int) &&& BitVec.ofInt 32 ((2 : Int) ^ k - 1)).toNat : Int) = _
  rw [hp, BitVec.toNat_and, e1, e2, Nat.and_two_pow_sub_one_eq_mod, IntWalk.u32_in _ (by omega)]
  simp
theorem byte_and (v : Int) (hv : U32 v) (n : Nat) : bits .and .u32 (v / 2 ^ (8 * (n % 4))) 255 = byteOf v n := by
  have hr : n % 4 < 4 := Nat.mod_lt _ (by decide)
  have hle : U32 (v / 2 ^ (8 * (n % 4))) := by
    obtain ⟨h0, h1⟩ := hv
    generalize n % 4 = r at *
    unfold U32
    rcases (by omega : r = 0 ∨ r = 1 ∨ r = 2 ∨ r = 3) with rfl | rfl | rfl | rfl <;> (simp; omega)
  have h := bits_and_low _ hle 8 (by decide)
  have e : (2 : Int) ^ 8 - 1 = 255 := by decide
  rw [e] at h
  rw [h]
  unfold byteOf
  rw [pw_cases _ hr]
  rfl
def RdM.cells (x : RdM) (r : Nat) : List Value := [.pointer (some ⟨r, 0, none⟩), .int .i64 x.base, .int .i64 x.at', .int .i64 x.cell, .int .u32 x.have']
structure RdM.ok (x : RdM) : Prop where
  base : -1099511627776 ≤ x.base ∧ x.base ≤ 1099511627776
  at' : x.at' ≤ 1099511627776
  cell : -1 ≤ x.cell ∧ x.cell ≤ 1099511627776
  have' : U32 x.have'

set_option maxRecDepth 100000 in
set_option maxHeartbeats 1000000 in
theorem rd_next {w : World} {K : Nat → Prop} {r m c : Nat} {s : St} (h : RM w K r m c s) (b : Nat) (x : RdM) (hx : x.ok) (hat : x.at' < 1099511627776) (hb : Blk w b (x.cells r)) (hK : K b) :
    Calls Try.prog 46 #[.pointer (some ⟨b, 0, none⟩)] w fun e w' => e = .returned (.int .u32 ((nextT x).exec s).1.1) ∧ RM w' K r m c ((nextT x).exec s).2 ∧ Blk w' b (((nextT x).exec s).1.2.cells r) ∧ ((nextT x).exec s).1.2.ok ∧ (0 ≤ ((nextT x).exec s).1.1 ∧ ((nextT x).exec s).1.1 ≤ 255) ∧ ((nextT x).exec s).1.2.at' = x.at' + 1 ∧ Keeps (fun y => K y ∧ y ≠ b) w w' := by
  obtain ⟨base, at', cell, have'⟩ := x
  obtain ⟨⟨x0, x1⟩, x2, ⟨x3, x4⟩, ⟨x5, x6⟩⟩ := hx
  simp only at x0 x1 x2 x3 x4 x5 x6 hat
  have hcell := hb
  unfold RdM.cells at hcell
  have c0 := (hcell).cell 0
  have c1 := (hcell).cell 1
  have c2 := (hcell).cell 2
  have c3 := (hcell).cell 3
  have c4 := (hcell).cell 4
  simp only [List.getElem?_cons_zero, List.getElem?_cons_succ] at c0 c1 c2 c3 c4
  clear hcell
  have hb' := hb
  by_cases hc : ((at' / 4 : Nat) : Int) = cell
  · have e : (nextT ⟨base, at', cell, have'⟩).exec s = ((byteOf have' at', ⟨base, at' + 1, cell, have'⟩), s) := by
      unfold nextT; rw [if_pos hc]; rfl
    rw [e]
    have hne : ((at' : Int) / 4 != cell) = false := by simp; omega
    clear hc e
    have H := hid h
    have HB := hid hb'
    clear h hb'
    refine calls_hide fun R' hR' => ?_
    have fr := hb.free 2
    clear hb
    go_enter Try.func46, Try.ntmps46
    go_wp2_with fail
    go_quiet (fail)
    go_wp2_with fail
    have hv := byte_and have' ⟨x5, x6⟩ at'
    rw [hv]
    have hB2 := HB.out.set 2 (.int .i64 ((at' : Int) + 1))
    refine hR'.out _ _ ⟨rfl, ?_, ?_, ⟨⟨x0, x1⟩, by show at' + 1 ≤ _; omega, ⟨x3, x4⟩, ⟨x5, x6⟩⟩, byteOf_range x5 _, (by first | trivial | rfl), ?_⟩
    · exact (H.out.setK hK _).drewN nq
    · exact (hB2.drewN nq)
    · exact ((Keeps.refl (fun y => K y ∧ y ≠ b) w).setCell (fun h => h.2 rfl) _).drewN nq
  · have hq : ((at' / 4 : Nat) : Int) = (at' : Int) / 4 := by omega
    have e : (nextT ⟨base, at', cell, have'⟩).exec s = ((byteOf (s.load (base + (at' : Int) / 4)).1 at', ⟨base, at' + 1, (at' : Int) / 4, (s.load (base + (at' : Int) / 4)).1⟩), (s.load (base + (at' : Int) / 4)).2) := by
      unfold nextT; rw [if_neg hc]
      show ((byteOf (s.load (base + ((at' / 4 : Nat) : Int))).1 at', RdM.mk base (at' + 1) ((at' / 4 : Nat) : Int) (s.load (base + ((at' / 4 : Nat) : Int))).1), (s.load (base + ((at' / 4 : Nat) : Int))).2) = _
      rw [hq]
    rw [e]
    have hne : ((at' : Int) / 4 != cell) = true := by simp; omega
    have hu := h.load_u32 (base + (at' : Int) / 4)
    have hw1 : IntKind.i64.wrap (base + (at' : Int) / 4) = base + (at' : Int) / 4 := IntWalk.i64_in _ (by omega)
    have HN := hid (show Calls Try.prog 43 #[.pointer (some ⟨r, 0, none⟩), .int .i64 (base + (at' : Int) / 4)] w.drew fun e w' => e = .returned (.int .u32 (s.load (base + (at' : Int) / 4)).1) ∧ Hid (RM w' K r m c (s.load (base + (at' : Int) / 4)).2 ∧ Keeps K w w' ∧ Blk w' b (RdM.cells ⟨base, at', cell, have'⟩ r)) ∧ w'.cell? ⟨b, 0, none⟩ = some (.pointer (some ⟨r, 0, none⟩)) ∧ w'.cell? ⟨b, 1, none⟩ = some (.int .i64 base) ∧ w'.cell? ⟨b, 2, none⟩ = some (.int .i64 at') ∧ w'.cell? ⟨b, 3, none⟩ = some (.int .i64 cell) ∧ w'.cell? ⟨b, 4, none⟩ = some (.int .u32 have') ∧ w'.frozen? ⟨b, 2, none⟩ = false ∧ w'.frozen? ⟨b, 3, none⟩ = false ∧ w'.frozen? ⟨b, 4, none⟩ = false from by
      refine (step_load h.drew (base + (at' : Int) / 4)).mono ?_
      rintro e w' ⟨rfl, g1, g2⟩
      have g3 := (hb'.drew).keep g2 hK
      exact ⟨rfl, ⟨g1, (Keeps.refl _ _).drew.trans g2, g3⟩, g3.cell 0, g3.cell 1, g3.cell 2, g3.cell 3, g3.cell 4, g3.free 2, g3.free 3, g3.free 4⟩)
    generalize (s.load (base + (at' : Int) / 4)) = ls at *
    obtain ⟨v, s1⟩ := ls
    simp only at HN hu
    obtain ⟨u0, u1⟩ := hu
    clear hc e hb' hb h hq
    refine calls_hide fun R' hR' => ?_
    go_enter Try.func46, Try.ntmps46
    go_wp2_with fail
    go_region_held3 (fun w' => w'.cell? ⟨b, 0, none⟩ = some (.pointer (some ⟨r, 0, none⟩)) ∧ w'.cell? ⟨b, 1, none⟩ = some (.int .i64 base)) (first | go_keep | (simp [*, World.cell?_setCell_other]))
      (first | (go_at_call 43; refine HN.out.mono ?_; rintro e w1 ⟨rfl, HW, z0, z1, z2, z3, z4, f2, f3, f4⟩))
    all_goals
      go_wp2_with fail
      clear z0 z1 hw1
      go_wp2_with fail
      go_quiet (fail)
      go_wp2_with fail
      have hv := byte_and v ⟨u0, u1⟩ at'
      rw [hv]
      have hB2 := ((HW.out.2.2.set 3 (.int .i64 ((at' : Int) / 4))).set 4 (.int .u32 v)).set 2 (.int .i64 ((at' : Int) + 1))
      refine hR'.out _ _ ⟨rfl, ?_, ?_, ⟨⟨x0, x1⟩, by show at' + 1 ≤ _; omega, ⟨by show -1 ≤ (at' : Int) / 4; omega, by show (at' : Int) / 4 ≤ _; omega⟩, ⟨u0, u1⟩⟩, byteOf_range u0 _, (by first | trivial | rfl), ?_⟩
      · exact (((HW.out.1.setK hK _).setK hK _).setK hK _).drewN nq
      · exact (hB2.drewN nq)
      · exact ((((HW.out.2.1.mono fun y hy => hy.1).setCell (fun h => h.2 rfl) _).setCell (fun h => h.2 rfl) _).setCell (fun h => h.2 rfl) _).drewN nq

theorem bits_or7 (n y : Int) (k : Nat) (hk : k < 5) (hn : 0 ≤ n) (hn1 : n < 4294967296) (hn2 : n < 2 ^ (7 * k)) (hy : 0 ≤ y ∧ y ≤ 127) :
    bits .or .u32 n (y * 2 ^ (7 * k) % 4294967296) = n + y * 2 ^ (7 * k) % 4294967296 ∧ n + y * 2 ^ (7 * k) % 4294967296 < 4294967296 ∧ n + y * 2 ^ (7 * k) % 4294967296 < 2 ^ (7 * (k + 1)) := by
  obtain ⟨y0, y1⟩ := hy
  obtain ⟨n, rfl⟩ := Int.eq_ofNat_of_zero_le hn
  obtain ⟨q, hq, hz⟩ : ∃ q : Nat, y * 2 ^ (7 * k) % 4294967296 = ((q * 2 ^ (7 * k) : Nat) : Int) ∧ q * 2 ^ (7 * k) + 2 ^ (7 * k) ≤ 4294967296 ∧ q ≤ 127 := by
    rcases (by omega : k = 0 ∨ k = 1 ∨ k = 2 ∨ k = 3 ∨ k = 4) with rfl | rfl | rfl | rfl | rfl
    · exact ⟨y.toNat, by simp; omega, by simp; omega, by omega⟩
    · exact ⟨y.toNat, by simp; omega, by simp; omega, by omega⟩
    · exact ⟨y.toNat, by simp; omega, by simp; omega, by omega⟩
    · exact ⟨y.toNat, by simp; omega, by simp; omega, by omega⟩
    · exact ⟨y.toNat % 16, by simp; omega, by simp; omega, by omega⟩
  rw [hq]
  obtain ⟨hz, hq1⟩ := hz
  have hn2' : n < 2 ^ (7 * k) := by
    have : ((2 : Int) ^ (7 * k)) = ((2 ^ (7 * k) : Nat) : Int) := by simp
    omega
  have e1 : (BitVec.ofInt 32 (n : Int)).toNat = n := by rw [BitVec.toNat_ofInt]; omega
  have e2 : (BitVec.ofInt 32 ((q * 2 ^ (7 * k) : Nat) : Int)).toNat = q * 2 ^ (7 * k) := by
    rw [BitVec.toNat_ofInt]
    generalize q * 2 ^ (7 * k) = z at *
    omega
  have hor : (BitVec.ofInt 32 (n : Int) ||| BitVec.ofInt 32 ((q * 2 ^ (7 * k) : Nat) : Int)).toNat = n + q * 2 ^ (7 * k) := by
    rw [BitVec.toNat_or, e1, e2, Nat.or_comm, ← Nat.shiftLeft_eq, ← Nat.shiftLeft_add_eq_or_of_lt hn2' q, Nat.add_comm]
  have h1 : n + q * 2 ^ (7 * k) < 4294967296 := by omega
  refine ⟨?_, by omega, ?_⟩
  · show IntKind.u32.wrap ((BitVec.ofInt 32 (n : Int) ||| BitVec.ofInt 32 ((q * 2 ^ (7 * k) : Nat) : Int)).toNat : Int) = _
    rw [hor, IntWalk.u32_in _ (by omega)]
    omega
  · have e3 : (2 : Int) ^ (7 * (k + 1)) = ((2 ^ (7 * k) * 128 : Nat) : Int) := by
      rw [show 7 * (k + 1) = 7 * k + 7 by omega, Int.pow_add]; simp
    rw [e3]
    have : q * 2 ^ (7 * k) ≤ 127 * 2 ^ (7 * k) := Nat.mul_le_mul_right _ hq1
    omega

set_option maxRecDepth 100000 in
set_option maxHeartbeats 1000000 in
theorem rd_number {w : World} {K : Nat → Prop} {r m c : Nat} {s : St} (h : RM w K r m c s) (b : Nat) (x : RdM) (hx : x.ok) (hat : x.at' < 1099511600000) (hb : Blk w b (x.cells r)) (hK : K b) :
    Calls Try.prog 47 #[.func (.func 46) #[.pointer (some ⟨b, 0, none⟩)] #[]] w fun e w' => e = .returned (.int .i64 ((numT x).exec s).1.1) ∧ RM w' K r m c ((numT x).exec s).2 ∧ Blk w' b (((numT x).exec s).1.2.cells r) ∧ ((numT x).exec s).1.2.ok ∧ U32 ((numT x).exec s).1.1 ∧ ((numT x).exec s).1.2.at' ≤ x.at' + 5 ∧ Keeps (fun y => K y ∧ y ≠ b) w w' := by
  generalize hres : (numT x).exec s = res
  have H := hid h
  have Hb := hid hb
  have Hx := hid hx
  have Hres := hid hres
  clear h hb hx hres
  refine calls_hide fun R' hR' => ?_
  go_enter Try.func47, Try.ntmps47
  go_wp2_with fail
  go_loopw [3, 6] (fun n i wr => ∃ (k : Nat) (nv : Int) (x' : RdM) (s' : St), n = .int .u32 nv ∧ i = .int .i64 (k : Int) ∧ k ≤ 5 ∧ 0 ≤ nv ∧ nv < 4294967296 ∧ nv < 2 ^ (7 * k) ∧ x'.at' = x.at' + k ∧ x'.ok ∧ Hid ((numL (5 - k) k nv x').exec s' = res) ∧ Hid (RM wr K r m c s') ∧ Hid (Blk wr b (x'.cells r)) ∧ Hid (Keeps (fun y => K y ∧ y ≠ b) w wr)) (fun _ i _ => 5 - (intOf i).toNat)
  case atStart => exact ⟨0, 0, x, s, rfl, rfl, by omega, by omega, by omega, by simp, rfl, Hx.out, Hres, H, Hb, hid (Keeps.refl _ _)⟩
  case round =>
    obtain ⟨k, nv, x', s', rfl, rfl, hk, hn0, hn1, hn2, ha, hok, HE, HR, HB, HK⟩ := hrel
    by_cases hlt : k < 5
    · have hlt' : (k : Int) < 5 := by omega
      have hcon := rd_next HR.out b x' hok (by omega) HB.out hK
      have hex := HE.out
      rw [show 5 - k = (5 - (k + 1)) + 1 by omega] at hex
      have hstep : (numL ((5 - (k + 1)) + 1) k nv x').exec s' = (if ((nextT x').exec s').1.1 < 128 then Tree.ret (numAdd nv ((nextT x').exec s').1.1 k, ((nextT x').exec s').1.2) else numL (5 - (k + 1)) (k + 1) (numAdd nv ((nextT x').exec s').1.1 k) ((nextT x').exec s').1.2).exec ((nextT x').exec s').2 := by
        rw [numL, Tree.exec_bind]
      rw [hstep] at hex
      clear hstep HE
      generalize (nextT x').exec s' = y at *
      obtain ⟨⟨v, x2⟩, s2⟩ := y
      simp only at hcon hex
      have Hcon := hid hcon
      have Hex := hid hex
      have Ha := hid ha
      have Hok := hid hok
      have Hn2 := hid hn2
      clear hcon hex ha hok hn2
      clear HR HB
      go_wp2_with fail
      refine Hcon.out.mono ?_
      rintro e w2 ⟨rfl, hR2, hB2, hok2, ⟨v0, v1⟩, ha2, hK2⟩
      have hKK := HK.out.trans hK2
      have hand : bits .and .u32 v 127 = v % 128 := bits_and_low v ⟨v0, by omega⟩ 7 (by decide)
      have HR2 := hid hR2
      have HB2 := hid hB2
      have Hok2 := hid hok2
      have Ha2 := hid ha2
      have HKK := hid hKK
      clear hR2 hB2 hok2 ha2 hKK
      clear hK2 HK Hcon
      obtain ⟨ho1, ho2, ho3⟩ := bits_or7 nv (v % 128) k hlt hn0 hn1 Hn2.out ⟨by omega, by omega⟩
      have HO3 := hid ho3
      have hadd : numAdd nv v k = nv + v % 128 * 2 ^ (7 * k) % 4294967296 := rfl
      have hex := Hex.out
      rw [hadd] at hex
      have hp0 : 0 ≤ v % 128 * 2 ^ (7 * k) % 4294967296 := Int.emod_nonneg _ (by decide)
      have HP := hid (And.intro hp0 (And.intro ho1 ho2))
      clear hadd Hex ho3 hp0 ho1 ho2
      by_cases hv : v < 128
      · rw [if_pos hv] at hex
        have hfin : ((nv + v % 128 * 2 ^ (7 * k) % 4294967296, x2), s2) = res := hex
        have Hfin := hid hfin
        clear hfin
        clear hex
        go_wp2_with fail
        rw [HP.out.2.1]
        have hw : wrap64 (nv + v % 128 * 2 ^ (7 * k) % 4294967296) = nv + v % 128 * 2 ^ (7 * k) % 4294967296 := by have := HP.out; exact IntWalk.wrap64_in _ (by omega)
        refine hR'.out _ _ ?_
        rw [← Hfin.out]
        exact ⟨by simp [hw], HR2.out, HB2.out, Hok2.out, ⟨by have := HP.out; show 0 ≤ nv + _; omega, by have := HP.out; show nv + _ ≤ _; omega⟩, by have := Ha2.out; have := Ha.out; show x2.at' ≤ _; omega, HKK.out⟩
      · rw [if_neg hv] at hex
        have Hex := hid hex
        clear hex
        go_wp2_with fail
        go_roundw
        case rel => exact ⟨k + 1, nv + v % 128 * 2 ^ (7 * k) % 4294967296, x2, s2, by rw [HP.out.2.1], by go_num, by omega, by have := HP.out; omega, by have := HP.out; omega, HO3.out, by have := Ha2.out; have := Ha.out; omega, Hok2.out, by rw [show 5 - (k + 1) = 5 - (k + 1) from rfl]; exact Hex, HR2, HB2, HKK⟩
        case measure => simp [intOf]; omega
    · obtain rfl : k = 5 := by omega
      have hfin : ((nv, x'), s') = res := HE.out
      have hw : wrap64 nv = nv := by exact IntWalk.wrap64_in _ (by omega)
      have Hfin := hid hfin
      have Hn2 := hid hn2
      have Ha := hid ha
      have Hok := hid hok
      clear hfin hn2 ha hok
      clear HE
      go_wp2_with fail
      refine hR'.out _ _ ?_
      rw [← Hfin.out]
      exact ⟨by simp [hw], HR.out, HB.out, Hok.out, ⟨hn0, by show nv ≤ _; omega⟩, by have := Ha.out; show x'.at' ≤ _; omega, HK.out⟩
end Go.Proofs.Ytbmgmjfpoepgpaa
