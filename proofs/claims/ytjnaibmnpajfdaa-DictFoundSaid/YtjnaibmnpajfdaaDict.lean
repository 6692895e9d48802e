/- Contracts of package dict: Find, Put. -/
import Derived.Test.YtjnaibmnpajfdaaRun
import Derived.Test.YtjnaibmnpajfdaaPack
import Derived.Test.YtjnaibmnpajfdaaPool
import Derived.Test.YtjnaibmnpajfdaaDictP
import Derived.Test.YtjnaibmnpajfdaaMemB
import Derived.Handy
namespace Go.Proofs.Ytjnaibmnpajfdaa
open Go.RowKit

def homeD (n : Nat) (l : List Int) : Nat := (hashL l).toNat % n

section
variable {s0 : Int} {n h f i : Nat} {C : List Int} {len : Int} {s s1 s2 : St} {x y : Int}
theorem findD_off (e : s.load (s0 + (((h + i) % n : Nat) : Int)) = (x, s1)) (ho : s1.isOff = true) : (findD s0 n h C len (f + 1) i).exec s = ((0, -1), s1) := by
  show (if (s.load (s0 + (((h + i) % n : Nat) : Int))).2.isOff = true then Tree.ret (0, -1) else _ : Tree (Int × Int)).exec (s.load (s0 + (((h + i) % n : Nat) : Int))).2 = _
  rw [e, if_pos ho]; rfl
theorem findD_zero (e : s.load (s0 + (((h + i) % n : Nat) : Int)) = (0, s1)) (ho : s1.isOff = false) : (findD s0 n h C len (f + 1) i).exec s = ((0, (((h + i) % n : Nat) : Int)), s1) := by
  show (if (s.load (s0 + (((h + i) % n : Nat) : Int))).2.isOff = true then Tree.ret (0, -1) else if (s.load (s0 + (((h + i) % n : Nat) : Int))).1 = 0 then _ else _ : Tree (Int × Int)).exec (s.load (s0 + (((h + i) % n : Nat) : Int))).2 = _
  rw [e, if_neg (by rw [ho]; decide), if_pos rfl]; rfl
def contD (s0 : Int) (n h : Nat) (C : List Int) (len : Int) (f i : Nat) (x : Int) (ok : Bool) : Tree (Int × Int) := if ok = true then .ret (x, (((h + i) % n : Nat) : Int)) else findD s0 n h C len f (i + 1)
theorem findD_len (e : s.load (s0 + (((h + i) % n : Nat) : Int)) = (x, s1)) (ho : s1.isOff = false) (hx : x ≠ 0) (e2 : s1.load (x + 1) = (y, s2)) (hy : y ≠ len) :
    (findD s0 n h C len (f + 1) i).exec s = (findD s0 n h C len f (i + 1)).exec s2 := by
  show (if (s.load (s0 + (((h + i) % n : Nat) : Int))).2.isOff = true then Tree.ret (0, -1) else if (s.load (s0 + (((h + i) % n : Nat) : Int))).1 = 0 then _ else _ : Tree (Int × Int)).exec (s.load (s0 + (((h + i) % n : Nat) : Int))).2 = _
  rw [e, if_neg (by rw [ho]; decide), if_neg hx]
  show (if (s1.load (x + 1)).1 ≠ len then findD s0 n h C len f (i + 1) else _ : Tree (Int × Int)).exec (s1.load (x + 1)).2 = _
  rw [e2, if_pos hy]
theorem findD_cmp (e : s.load (s0 + (((h + i) % n : Nat) : Int)) = (x, s1)) (ho : s1.isOff = false) (hx : x ≠ 0) (e2 : s1.load (x + 1) = (len, s2)) :
    (findD s0 n h C len (f + 1) i).exec s = ((cmpD x C 0).bind (contD s0 n h C len f i x)).exec s2 := by
  show (if (s.load (s0 + (((h + i) % n : Nat) : Int))).2.isOff = true then Tree.ret (0, -1) else if (s.load (s0 + (((h + i) % n : Nat) : Int))).1 = 0 then _ else _ : Tree (Int × Int)).exec (s.load (s0 + (((h + i) % n : Nat) : Int))).2 = _
  rw [e, if_neg (by rw [ho]; decide), if_neg hx]
  show (if (s1.load (x + 1)).1 ≠ len then findD s0 n h C len f (i + 1) else (cmpD x C 0).bind (contD s0 n h C len f i x) : Tree (Int × Int)).exec (s1.load (x + 1)).2 = _
  rw [e2, if_neg (by simp)]
theorem cmpD_no {a c : Int} {L : List Int} {k : Nat} {F : Bool → Tree (Int × Int)} (e : s.load (a + 2 + k) = (x, s1)) (hx : x ≠ c) : ((cmpD a (c :: L) k).bind F).exec s = (F false).exec s1 := by
  show ((if (s.load (a + 2 + k)).1 ≠ c then Tree.ret false else _).bind F).exec (s.load (a + 2 + k)).2 = _
  rw [e, if_pos hx]; rfl
theorem cmpD_halt {a c : Int} {L : List Int} {k : Nat} {F : Bool → Tree (Int × Int)} (e : s.load (a + 2 + k) = (c, s1)) (ho : s1.isOff = true) : ((cmpD a (c :: L) k).bind F).exec s = (F false).exec s1 := by
  show ((if (s.load (a + 2 + k)).1 ≠ c then Tree.ret false else .off fun o => if o = true then .ret false else cmpD a L (k + 1)).bind F).exec (s.load (a + 2 + k)).2 = _
  rw [e, if_neg (by simp)]
  show ((if s1.isOff = true then Tree.ret false else cmpD a L (k + 1)).bind F).exec s1 = _
  rw [if_pos ho]; rfl
theorem cmpD_yes {a c : Int} {L : List Int} {k : Nat} {F : Bool → Tree (Int × Int)} (e : s.load (a + 2 + k) = (c, s1)) (ho : s1.isOff = false) : ((cmpD a (c :: L) k).bind F).exec s = ((cmpD a L (k + 1)).bind F).exec s1 := by
  show ((if (s.load (a + 2 + k)).1 ≠ c then Tree.ret false else .off fun o => if o = true then .ret false else cmpD a L (k + 1)).bind F).exec (s.load (a + 2 + k)).2 = _
  rw [e, if_neg (by simp)]
  show ((if s1.isOff = true then Tree.ret false else cmpD a L (k + 1)).bind F).exec s1 = _
  rw [if_neg (by rw [ho]; decide)]
end

set_option maxRecDepth 100000 in
set_option maxHeartbeats 2000000 in
theorem dict_find {w : World} {K : Nat → Prop} {r m c : Nat} {s : St} (h : RM w K r m c s) (s0 : Int) (n : Nat) (t : ByteArray) (hs : 0 ≤ s0 ∧ s0 ≤ 65536) (hn : 1 ≤ n ∧ n ≤ 65536) (ht : t.size ≤ 140737488351232) :
    Calls Try.prog 45 #[.pointer (some ⟨r, 0, none⟩), .int .i64 s0, .int .i64 n, .string t] w fun e w' =>
      e = .returned (.tuple #[.int .i64 ((findD s0 n (homeD n (bsL t)) (packC (bsL t)) t.size n 0).exec s).1.1, .int .i64 ((findD s0 n (homeD n (bsL t)) (packC (bsL t)) t.size n 0).exec s).1.2]) ∧
        RM w' K r m c ((findD s0 n (homeD n (bsL t)) (packC (bsL t)) t.size n 0).exec s).2 ∧ Keeps K w w' := by
  obtain ⟨s00, s01⟩ := hs
  obtain ⟨n0, n1⟩ := hn
  have hhr := hash_range (bsL t)
  have hpl : (packC (bsL t)).length = (t.size + 3) / 4 := by rw [packC_len, bsL_len]
  have hpr := packC_range (l := bsL t) (fun x hx => bsL_range t x hx)
  have hhome : homeD n (bsL t) < n := Nat.mod_lt _ (by omega)
  have hhe : hashL (bsL t) % (n : Int) = (homeD n (bsL t) : Int) := by unfold homeD; rw [Int.natCast_emod, Int.toNat_of_nonneg hhr.1]
  generalize homeD n (bsL t) = ho at *
  generalize hres : (findD s0 n ho (packC (bsL t)) t.size n 0).exec s = res
  generalize hC : packC (bsL t) = C at *
  have H := hid h
  have Hres := hid hres
  have Hpl := hid hpl
  have Hpr := hid hpr
  have Hhe := hid hhe
  have HC := hid hC
  clear h hres hpl hpr hhe hC
  refine calls_hide fun R' hR' => ?_
  go_enter Try.func45, Try.ntmps45
  go_wp2_with fail
  go_step3
  go_wp2_with fail
  refine (pack_cells t ht w).mono ?_
  rintro e w1 ⟨rfl, hB1, hk1⟩
  have hK1 := H.out.moreB hk1
  have hz1 := hk1.size
  have HK1 := hid hK1
  clear hK1
  go_wp2_with fail
  refine (pack_hash t ht _).mono ?_
  rintro e w2 ⟨rfl, rfl⟩
  go_wp2_with fail
  have hww : wrap64 (hashL (bsL t) % (n : Int)) = (ho : Int) := by rw [Hhe.out]; unfold wrap64; omega
  rw [hww]
  clear hww hhr
  generalize hK1d : (fun b => K b ∨ (w.heap.size ≤ b ∧ b < w1.heap.size)) = K1 at *
  have hKK : ∀ b, K b → K1 b := by intro b hb; rw [← hK1d]; exact Or.inl hb
  have hb1K : K1 w.heap.size := by rw [← hK1d]; exact Or.inr ⟨Nat.le_refl _, hB1.lt⟩
  have hkw : Keeps K w w1 := hk1.mono H.out.lt
  generalize w.heap.size = b1 at *
  have HK1d := hid hK1d
  have HKK := hid hKK
  have Hb1K := hid hb1K
  have Hkw := hid hkw
  have HB1 := hid hB1
  have Hz1 := hid hz1
  clear hK1d hKK hb1K hkw hB1 hz1
  clear hk1
  go_step3
  go_wp2_with fail
  go_loopw [29] (fun i wr => ∃ (k : Nat) (s' : St), i = .int .i64 k ∧ k ≤ n ∧ RM wr K1 r m c s' ∧ Keeps K1 w1 wr ∧ (findD s0 n ho C t.size (n - k) k).exec s' = res) (fun i _ => n - (intOf i).toNat)
  case atStart => exact ⟨0, s, rfl, Nat.zero_le _, HK1.out, Keeps.refl _ _, Hres.out⟩
  case round =>
    obtain ⟨k, s', rfl, hk, hR, hK, hex⟩ := hrel
    have HR := hid hR
    have HK := hid hK
    clear hR hK
    by_cases hlt : k < n
    · have e : n - k = (n - (k + 1)) + 1 := by omega
      rw [e] at hex
      have e0 : 0 ≤ ((ho : Int) + k) % n := Int.emod_nonneg _ (by omega)
      have e1 : ((ho : Int) + k) % n < n := Int.emod_lt_of_pos _ (by omega)
      have Hex := hid hex
      clear hex
      clear e
      go_wp2_with fail
      have hsl : ((ho : Int) + k) % n = (((ho + k) % n : Nat) : Int) := by rw [Int.natCast_emod, Int.natCast_add]
      generalize ((ho : Int) + k) % n = sl at *
      refine (step_load HR.out (s0 + sl)).mono ?_
      rintro e w3 ⟨rfl, hr3, hk3⟩
      have hu3 := HR.out.load_u32 (s0 + sl)
      generalize hls : s'.load (s0 + sl) = ls at *
      obtain ⟨x, s1⟩ := ls
      simp only at hr3 hu3
      obtain ⟨u0, u1⟩ := hu3
      rw [hsl] at hls
      have hk3' := HK.out.trans hk3
      have Hls := hid hls
      have Hr3 := hid hr3
      have Hk3' := hid hk3'
      have Hsl := hid hsl
      clear hls hr3 hk3' hsl
      clear hk3
      go_wp2_with fail
      refine (step_off Hr3.out).mono ?_
      rintro e w4 ⟨rfl, rfl⟩
      cases hoff : s1.isOff with
      | true =>
        have hfin := Hex.out
        rw [findD_off Hls.out hoff] at hfin
        have Hfin := hid hfin
        have Hoff := hid hoff
        clear hfin hoff
        go_wp2_with fail
        refine hR'.out _ _ ⟨by rw [← Hfin.out]; rfl, by rw [← Hfin.out]; exact Hr3.out.mono HKK.out, Hkw.out.trans (Hk3'.out.mono HKK.out)⟩
      | false =>
        by_cases hx : x = 0
        · subst hx
          have hfin := Hex.out
          rw [findD_zero Hls.out hoff] at hfin
          have Hfin := hid hfin
          have Hoff := hid hoff
          clear hfin hoff
          go_wp2_with fail
          refine hR'.out _ _ ⟨by rw [← Hfin.out, Hsl.out]; rfl, by rw [← Hfin.out]; exact Hr3.out.mono HKK.out, Hkw.out.trans (Hk3'.out.mono HKK.out)⟩
        · have hb : (x == 0) = false := by simpa using hx
          have Hx := hid hx
          have Hoff := hid hoff
          clear hx hoff
          go_wp2_with fail
          refine (step_load Hr3.out _).mono ?_
          rintro e w5 ⟨rfl, hr5, hk5⟩
          have hu5 := Hr3.out.load_u32 (x + 1)
          generalize hls5 : s1.load (x + 1) = ls at *
          obtain ⟨y, s2⟩ := ls
          simp only at hr5 hu5
          obtain ⟨v0, v1⟩ := hu5
          have hk5' := Hk3'.out.trans hk5
          have Hls5 := hid hls5
          have Hr5 := hid hr5
          have Hk5' := hid hk5'
          clear hls5 hr5 hk5'
          clear hk5
          by_cases hy : y = t.size
          · have hnx := Hex.out
            subst hy
            rw [findD_cmp Hls.out Hoff.out Hx.out Hls5.out] at hnx
            have Hnx := hid hnx
            clear hnx
            go_wp2_with fail
            go_loopw [61] (fun j wr2 => ∃ (q : Nat) (s3 : St), j = .int .i64 q ∧ q ≤ (t.size + 3) / 4 ∧ RM wr2 K1 r m c s3 ∧ Keeps K1 w1 wr2 ∧
              ((cmpD x (C.drop q) q).bind (contD s0 n ho C t.size (n - (k + 1)) k x)).exec s3 = res) (fun j _ => (t.size + 3) / 4 - (intOf j).toNat)
            case atStart => exact ⟨0, s2, rfl, Nat.zero_le _, Hr5.out, Hk5'.out, by rw [List.drop_zero]; exact Hnx.out⟩
            case round =>
              obtain ⟨q, s3, rfl, hq, hR3, hK3, hex3⟩ := hrel
              have HR3 := hid hR3
              have HK3 := hid hK3
              clear hR3 hK3
              clear Hnx Hr5 Hk5' Hex Hls Hls5 HR HK Hr3 Hk3'
              by_cases hqlt : q < (t.size + 3) / 4
              · have hCq : q < C.length := by rw [Hpl.out]; exact hqlt
                have hd : C.drop q = C[q] :: C.drop (q + 1) := List.drop_eq_getElem_cons hCq
                have hcell : wr.cell? ⟨b1, q, none⟩ = some (.int .u32 C[q]) := by
                  rw [World.cell?_of_block (a := ⟨b1, q, none⟩) (HK3.out.block b1 Hb1K.out), HB1.out.cell, HC.out, List.getElem?_map, List.getElem?_eq_getElem hCq]; rfl
                have hcr := Hpr.out C[q] (List.getElem_mem hCq)
                rw [hd] at hex3
                generalize C[q] = cq at *
                obtain ⟨c0, c1⟩ := hcr
                have i1 : (q : Int) < ((t.size : Int) + 3) / 4 := by omega
                have Hex3 := hid hex3
                clear hex3
                clear hd hCq
                go_wp2_with fail
                refine (step_load HR3.out (x + 2 + q)).mono ?_
                rintro e w6 ⟨rfl, hr6, hk6⟩
                have hu6 := HR3.out.load_u32 (x + 2 + q)
                generalize hls6 : s3.load (x + 2 + q) = ls at *
                obtain ⟨v, s4⟩ := ls
                simp only at hr6 hu6
                obtain ⟨t0, t1⟩ := hu6
                have hk6' := HK3.out.trans hk6
                have Hls6 := hid hls6
                have Hr6 := hid hr6
                have Hk6' := hid hk6'
                clear hls6 hr6 hk6'
                clear hk6
                by_cases hv : v = cq
                · subst hv
                  go_wp2_with fail
                  refine (step_off Hr6.out).mono ?_
                  rintro e w7 ⟨rfl, rfl⟩
                  cases hoff : s4.isOff with
                  | true =>
                    have hnx := Hex3.out
                    rw [cmpD_halt Hls6.out hoff] at hnx
                    have Hnx := hid hnx
                    have Hoff := hid hoff
                    clear hnx hoff
                    go_wp2_with fail
                    go_roundw
                    case rel => exact ⟨k + 1, s4, by go_num, by omega, Hr6.out, Hk6'.out, Hnx.out⟩
                    case measure => simp [intOf]; omega
                  | false =>
                    have hnx := Hex3.out
                    rw [cmpD_yes Hls6.out hoff] at hnx
                    have Hnx := hid hnx
                    have Hoff := hid hoff
                    clear hnx hoff
                    go_wp2_with fail
                    go_roundw
                    case rel => exact ⟨q + 1, s4, by go_num, by omega, Hr6.out, Hk6'.out, Hnx.out⟩
                    case measure => simp [intOf]; omega
                · have hbv : (v != cq) = true := by simpa using hv
                  have hnx := Hex3.out
                  rw [cmpD_no Hls6.out hv] at hnx
                  have Hnx := hid hnx
                  have Hv := hid hv
                  clear hnx hv
                  go_wp2_with fail
                  go_roundw
                  case rel => exact ⟨k + 1, s4, by go_num, by omega, Hr6.out, Hk6'.out, Hnx.out⟩
                  case measure => simp [intOf]; omega
              · have hqn : C.drop q = [] := List.drop_of_length_le (by rw [Hpl.out]; omega)
                rw [hqn] at hex3
                have hfin : ((x, (((ho + k) % n : Nat) : Int)), s3) = res := hex3
                clear hex3 hqn
                have Hfin := hid hfin
                clear hfin
                go_wp2_with fail
                refine hR'.out _ _ ⟨by rw [← Hfin.out, Hsl.out]; rfl, by rw [← Hfin.out]; exact HR3.out.mono HKK.out, Hkw.out.trans (HK3.out.mono HKK.out)⟩
          · have hby : (y != (t.size : Int)) = true := by simpa using hy
            have hnx := Hex.out
            rw [findD_len Hls.out Hoff.out Hx.out Hls5.out hy] at hnx
            have Hnx := hid hnx
            have Hy := hid hy
            clear hnx hy
            go_wp2_with fail
            go_roundw
            case rel => exact ⟨k + 1, s2, by go_num, by omega, Hr5.out, Hk5'.out, Hnx.out⟩
            case measure => simp [intOf]; omega
    · have hkn : n - k = 0 := by omega
      rw [hkn] at hex
      have hfin : ((0, -1), s') = res := hex
      clear hex
      have Hfin := hid hfin
      have Hkn := hid hkn
      clear hfin hkn
      go_wp2_with fail
      refine hR'.out _ _ ⟨by rw [← Hfin.out]; rfl, by rw [← Hfin.out]; exact HR.out.mono HKK.out, Hkw.out.trans (HK.out.mono HKK.out)⟩
end Go.Proofs.Ytjnaibmnpajfdaa
