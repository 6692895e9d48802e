/- Layer 17 (query): Show, the program's. -/
import Derived.Test.YtbepgbkbpkaodaaDoorShowD
namespace Go.Proofs.YtbepgbkbpkaodaaDoor
open Go.RowKit

def orderT (o : Int) : List UInt8 := if o = 1 then [32, 64, 110, 101, 119] else [32, 64, 114, 97, 110, 107]
def tailT (li o : Int) : List UInt8 := [32, 35] ++ Lib.decDigits li.toNat ++ orderT o
def mayQ (n : Nd) (li o : Int) : Bool := decide (0 ≤ li) && decide (li ≤ 64) && (o == 0 || o == 1) && okN n 0
def showR (n : Nd) (li o : Int) : List UInt8 × Int := if mayQ n li o = false then ([], 8) else if 256 < (txtN n ++ tailT li o).length then ([], 4) else (txtN n ++ tailT li o, 0)

theorem dec_le {i : Nat} (h : i < 100) : (Lib.decDigits i).length ≤ 2 := by
  by_cases h1 : i < 10
  · rw [Lib.decDigits_one h1]; simp
  · rw [Lib.decDigits_two h1 h]; simp
set_option maxRecDepth 100000 in
set_option maxHeartbeats 4000000 in
theorem query_Show (n : Nd) (w : World) (K : Nat → Prop) (k f : Int) (A1 A2 : Option Addr) (n1 c1 n2 c2 m : Nat) (li o : Int) (hb : ∀ b, K b → b < w.heap.size) (hT : FoldTab w) (hv : NodeV w K n [.int .i64 k, .int .u8 f, .slice A1 n1 c1, .slice A2 n2 c2]) (ho : NdOk n) (ht : Tot n m) (hm : m ≤ 3000) (hli : -9223372036854775808 ≤ li ∧ li ≤ 9223372036854775807) :
    Calls Tryd.prog 18 #[.agg #[.int .i64 k, .int .u8 f, .slice A1 n1 c1, .slice A2 n2 c2, .int .i64 li, .int .i64 o]] w fun e w' => e = .returned (.tuple #[.string ⟨(showR n li o).1.toArray⟩, .int .i64 (showR n li o).2]) ∧ Keeps (· < w.heap.size) w w' := by
  have hkw : Keeps (· < w.heap.size) w (w.alloc (.cells #[.int .i64 k, .int .u8 f, .slice A1 n1 c1, .slice A2 n2 c2, .int .i64 li, .int .i64 o] 28)) := (Keeps.refl _ _).alloc (fun b hb => hb) _
  have hB : Blk (w.alloc (.cells #[.int .i64 k, .int .u8 f, .slice A1 n1 c1, .slice A2 n2 c2, .int .i64 li, .int .i64 o] 28)) w.heap.size [.int .i64 k, .int .u8 f, .slice A1 n1 c1, .slice A2 n2 c2, .int .i64 li, .int .i64 o] := Blk.new w _ _
  have hcall := query_show _ n (Nat.le_refl _) (w.alloc (.cells #[.int .i64 k, .int .u8 f, .slice A1 n1 c1, .slice A2 n2 c2, .int .i64 li, .int .i64 o] 28)) K k f A1 A2 n1 c1 n2 c2 0 m (fun b h => Nat.lt_of_lt_of_le (hb b h) hkw.size) (hT.keep hkw) (hv.keepK hkw hb) ho ht hm (by decide)
  have hcall : Calls Tryd.prog 35 #[.agg #[.int .i64 k, .int .u8 f, .slice A1 n1 c1, .slice A2 n2 c2], .int .i64 0] (w.alloc (.cells #[.int .i64 k, .int .u8 f, .slice A1 n1 c1, .slice A2 n2 c2, .int .i64 li, .int .i64 o] 28)) (ShowP n 0 m (w.alloc (.cells #[.int .i64 k, .int .u8 f, .slice A1 n1 c1, .slice A2 n2 c2, .int .i64 li, .int .i64 o] 28))) := hcall
  obtain ⟨hl0, hl1⟩ := hli
  have hrr : showR n li o = if mayQ n li o = false then ([], 8) else if 256 < (txtN n ++ tailT li o).length then ([], 4) else (txtN n ++ tailT li o, 0) := rfl
  have hmq : mayQ n li o = (decide (0 ≤ li) && decide (li ≤ 64) && (o == 0 || o == 1) && okN n 0) := rfl
  have hfail : ∀ R' : Ending → World → Prop, (∀ e w', (e = .returned (.tuple #[.string ⟨(showR n li o).1.toArray⟩, .int .i64 (showR n li o).2]) ∧ Keeps (· < w.heap.size) w w') → R' e w') → ∀ w', Keeps (· < w.heap.size) w w' → mayQ n li o = false → R' (.returned (.tuple #[.string ⟨#[]⟩, .int .i64 8])) w' := fun R' h w' hk hq => h _ _ ⟨by rw [hrr, if_pos hq], hk⟩
  clear hv hT hb ho ht
  have Hcall := hid hcall
  have Hkw := hid hkw
  have HB := hid hB
  have Hfail := hid hfail
  have Hmq := hid hmq
  have Hrr := hid hrr
  clear hcall hkw hB hfail hmq hrr
  refine calls_hide fun R' hR' => ?_
  go_enter Tryd.func18, Tryd.ntmps18
  by_cases h1 : li < 0
  · have f1 : decide (li < 0) = true := decide_eq_true h1
    have hno : mayQ n li o = false := by rw [Hmq.out, decide_eq_false (by omega : ¬ 0 ≤ li)]; rfl
    have Hno := hid hno
    clear hno
    go_wp2_with fail
    exact Hfail.out R' hR'.out _ Hkw.out Hno.out
  have f1 : ¬ li < 0 := h1
  by_cases h2 : 64 < li
  · have f2 : 64 < li := h2
    have hno : mayQ n li o = false := by rw [Hmq.out, decide_eq_false (by omega : ¬ li ≤ 64), Bool.and_false]; rfl
    have Hno := hid hno
    clear hno
    go_wp2_with fail
    exact Hfail.out R' hR'.out _ Hkw.out Hno.out
  have f2 : ¬ 64 < li := h2
  obtain ⟨L, rfl⟩ := Int.eq_ofNat_of_zero_le (by omega : 0 ≤ li)
  have hL : L < 100 := by omega
  have hit := Tryd.strconv_Itoa_small L hL
  have hdl := dec_le hL
  have hto : ((L : Int)).toNat = L := Int.toNat_natCast L
  by_cases h3 : o = 0 ∨ o = 1
  · have f3 : (o == 0 || o == 1) = true := by rcases h3 with rfl | rfl <;> rfl
    have hmq2 : mayQ n L o = okN n 0 := by rw [Hmq.out, decide_eq_true (by omega : (0 : Int) ≤ (L : Int)), decide_eq_true (by omega : (L : Int) ≤ 64), f3]; rfl
    clear Hmq f3
    have Hmq2 := hid hmq2
    have Hit := hid hit
    have Hto := hid hto
    clear hmq2 hit hto
    rcases h3 with rfl | rfl
    · have hrr2 : showR n L 0 = _ := Hrr.out
      clear Hrr
      have hz := HB.out
      have hzl := hz.lt
      have z0 := (hz).cell 0
      have z1 := (hz).cell 1
      have z2 := (hz).cell 2
      have z3 := (hz).cell 3
      have z4 := (hz).cell 4
      have z5 := (hz).cell 5
      simp only [List.getElem?_cons_zero, List.getElem?_cons_succ] at z0 z1 z2 z3 z4 z5
      clear hz
      have Hrr2 := hid hrr2
      clear hrr2
      go_wp2_with fail
      refine Hcall.out.mono ?_
      rintro e w2 ⟨s, rfl, g1, _, g2, g3⟩
      have hk2 := Hkw.out.trans (g3.mono fun b hb => Nat.lt_of_lt_of_le hb Hkw.out.size)
      have hB2 := HB.out.keep g3 hzl
      clear z0 z1 z2 z3 z4 z5 g3 Hcall
      have z0 := (hB2).cell 0
      have z1 := (hB2).cell 1
      have z2 := (hB2).cell 2
      have z3 := (hB2).cell 3
      have z4 := (hB2).cell 4
      have z5 := (hB2).cell 5
      simp only [List.getElem?_cons_zero, List.getElem?_cons_succ] at z0 z1 z2 z3 z4 z5
      clear hB2
      generalize okN n 0 = ok at *
      cases ok with
      | false =>
        have hno : mayQ n L 0 = false := Hmq2.out
        clear g1
        have Hk2 := hid hk2
        have Hno := hid hno
        clear hk2 hno
        go_wp2_with fail
        exact Hfail.out R' hR'.out _ Hk2.out Hno.out
      | true =>
        have g1 := g1 rfl
        have hyes : mayQ n L 0 = true := Hmq2.out
        have hsb : s.size ≤ 3000000 := by omega
        have hdd : (⟨(Lib.decDigits L).toArray⟩ : ByteArray).data.toList = Lib.decDigits L := rfl
        have hds : (⟨(Lib.decDigits L).toArray⟩ : ByteArray).size ≤ 2 := hdl
        have hit := Hit.out
        generalize (⟨(Lib.decDigits L).toArray⟩ : ByteArray) = dg at *
        have hfull : ∀ x : ByteArray, x = ⟨#[32, 64, 114, 97, 110, 107]⟩ → (s ++ ((⟨#[32, 35]⟩ ++ dg) ++ x)).data.toList = txtN n ++ tailT L 0 := fun x hx => by
          subst hx
          unfold tailT
          rw [ByteArray.data_append, ByteArray.data_append, ByteArray.data_append, Array.toList_append, Array.toList_append, Array.toList_append, g1, hdd, Hto.out]
          rfl
        have hlen : (txtN n ++ tailT L 0).length = s.size + (2 + dg.size + 6) := by
          rw [← hfull _ rfl, bsize, ByteArray.size_append, ByteArray.size_append, ByteArray.size_append]
          rfl
        have hret : ∀ R' : Ending → World → Prop, (∀ e w', (e = .returned (.tuple #[.string ⟨(showR n L 0).1.toArray⟩, .int .i64 (showR n L 0).2]) ∧ Keeps (· < w.heap.size) w w') → R' e w') → (256 < s.size + (2 + dg.size + 6) → R' (.returned (.tuple #[.string ⟨#[]⟩, .int .i64 4])) w2) ∧ (¬ 256 < s.size + (2 + dg.size + 6) → R' (.returned (.tuple #[.string (s ++ ((⟨#[32, 35]⟩ ++ dg) ++ ⟨#[32, 64, 114, 97, 110, 107]⟩)), .int .i64 0])) w2) := fun R' h => by
          refine ⟨fun hq => h _ _ ⟨?_, hk2⟩, fun hq => h _ _ ⟨?_, hk2⟩⟩
          · rw [Hrr2.out, hyes, if_neg (by decide), if_pos (by rw [hlen]; exact hq)]
          · rw [Hrr2.out, hyes, if_neg (by decide), if_neg (by rw [hlen]; exact hq), ba_eq (hfull _ rfl)]
        have hret := hret R' hR'.out
        clear hfull hlen hdl g1 hyes hdd hk2 Hrr2
        have Hret := hid hret
        have Hit := hid hit
        clear hret hit
        by_cases hq : 256 < s.size + (2 + dg.size + 6)
        · have hqI : (256 : Int) < (s.size : Int) + (2 + (dg.size : Int) + 6) := by omega
          go_wp2_with fail
          refine (Hit.out _).mono ?_
          rintro e w3 ⟨rfl, rfl⟩
          go_wp2_with fail
          exact Hret.out.1 hq
        · have hqI : ¬ (256 : Int) < (s.size : Int) + (2 + (dg.size : Int) + 6) := by omega
          go_wp2_with fail
          refine (Hit.out _).mono ?_
          rintro e w3 ⟨rfl, rfl⟩
          go_wp2_with fail
          exact Hret.out.2 hq
    · have hrr2 : showR n L 1 = _ := Hrr.out
      clear Hrr
      have hz := HB.out
      have hzl := hz.lt
      have z0 := (hz).cell 0
      have z1 := (hz).cell 1
      have z2 := (hz).cell 2
      have z3 := (hz).cell 3
      have z4 := (hz).cell 4
      have z5 := (hz).cell 5
      simp only [List.getElem?_cons_zero, List.getElem?_cons_succ] at z0 z1 z2 z3 z4 z5
      clear hz
      have Hrr2 := hid hrr2
      clear hrr2
      go_wp2_with fail
      refine Hcall.out.mono ?_
      rintro e w2 ⟨s, rfl, g1, _, g2, g3⟩
      have hk2 := Hkw.out.trans (g3.mono fun b hb => Nat.lt_of_lt_of_le hb Hkw.out.size)
      have hB2 := HB.out.keep g3 hzl
      clear z0 z1 z2 z3 z4 z5 g3 Hcall
      have z0 := (hB2).cell 0
      have z1 := (hB2).cell 1
      have z2 := (hB2).cell 2
      have z3 := (hB2).cell 3
      have z4 := (hB2).cell 4
      have z5 := (hB2).cell 5
      simp only [List.getElem?_cons_zero, List.getElem?_cons_succ] at z0 z1 z2 z3 z4 z5
      clear hB2
      generalize okN n 0 = ok at *
      cases ok with
      | false =>
        have hno : mayQ n L 1 = false := Hmq2.out
        clear g1
        have Hk2 := hid hk2
        have Hno := hid hno
        clear hk2 hno
        go_wp2_with fail
        exact Hfail.out R' hR'.out _ Hk2.out Hno.out
      | true =>
        have g1 := g1 rfl
        have hyes : mayQ n L 1 = true := Hmq2.out
        have hsb : s.size ≤ 3000000 := by omega
        have hdd : (⟨(Lib.decDigits L).toArray⟩ : ByteArray).data.toList = Lib.decDigits L := rfl
        have hds : (⟨(Lib.decDigits L).toArray⟩ : ByteArray).size ≤ 2 := hdl
        have hit := Hit.out
        generalize (⟨(Lib.decDigits L).toArray⟩ : ByteArray) = dg at *
        have hfull : ∀ x : ByteArray, x = ⟨#[32, 64, 110, 101, 119]⟩ → (s ++ ((⟨#[32, 35]⟩ ++ dg) ++ x)).data.toList = txtN n ++ tailT L 1 := fun x hx => by
          subst hx
          unfold tailT
          rw [ByteArray.data_append, ByteArray.data_append, ByteArray.data_append, Array.toList_append, Array.toList_append, Array.toList_append, g1, hdd, Hto.out]
          rfl
        have hlen : (txtN n ++ tailT L 1).length = s.size + (2 + dg.size + 5) := by
          rw [← hfull _ rfl, bsize, ByteArray.size_append, ByteArray.size_append, ByteArray.size_append]
          rfl
        have hret : ∀ R' : Ending → World → Prop, (∀ e w', (e = .returned (.tuple #[.string ⟨(showR n L 1).1.toArray⟩, .int .i64 (showR n L 1).2]) ∧ Keeps (· < w.heap.size) w w') → R' e w') → (256 < s.size + (2 + dg.size + 5) → R' (.returned (.tuple #[.string ⟨#[]⟩, .int .i64 4])) w2) ∧ (¬ 256 < s.size + (2 + dg.size + 5) → R' (.returned (.tuple #[.string (s ++ ((⟨#[32, 35]⟩ ++ dg) ++ ⟨#[32, 64, 110, 101, 119]⟩)), .int .i64 0])) w2) := fun R' h => by
          refine ⟨fun hq => h _ _ ⟨?_, hk2⟩, fun hq => h _ _ ⟨?_, hk2⟩⟩
          · rw [Hrr2.out, hyes, if_neg (by decide), if_pos (by rw [hlen]; exact hq)]
          · rw [Hrr2.out, hyes, if_neg (by decide), if_neg (by rw [hlen]; exact hq), ba_eq (hfull _ rfl)]
        have hret := hret R' hR'.out
        clear hfull hlen hdl g1 hyes hdd hk2 Hrr2
        have Hret := hid hret
        have Hit := hid hit
        clear hret hit
        by_cases hq : 256 < s.size + (2 + dg.size + 5)
        · have hqI : (256 : Int) < (s.size : Int) + (2 + (dg.size : Int) + 5) := by omega
          go_wp2_with fail
          refine (Hit.out _).mono ?_
          rintro e w3 ⟨rfl, rfl⟩
          go_wp2_with fail
          exact Hret.out.1 hq
        · have hqI : ¬ (256 : Int) < (s.size : Int) + (2 + (dg.size : Int) + 5) := by omega
          go_wp2_with fail
          refine (Hit.out _).mono ?_
          rintro e w3 ⟨rfl, rfl⟩
          go_wp2_with fail
          exact Hret.out.2 hq
  · have f3 : (o == 0) = false := by simpa using fun h => h3 (Or.inl h)
    have f4 : (o == 1) = false := by simpa using fun h => h3 (Or.inr h)
    have g3 : (o != 0) = true := by simpa using fun h => h3 (Or.inl h)
    have g4 : (o != 1) = true := by simpa using fun h => h3 (Or.inr h)
    have hno : mayQ n L o = false := by rw [Hmq.out, f3, f4]; simp
    clear h3 hto hit
    have Hno := hid hno
    clear hno
    go_wp2_with fail
    exact Hfail.out R' hR'.out _ Hkw.out Hno.out
end Go.Proofs.YtbepgbkbpkaodaaDoor
