/- Layer 17's statements: QueryShows. -/
import Derived.Test.YtbepgbkbpkaodaaDoorShowM
import Derived.Test.YtbepgbkbpkaodaaDoorJQryV
namespace Go.Proofs.YtbepgbkbpkaodaaDoor
open Go.RowKit

set_option maxRecDepth 100000 in
set_option maxHeartbeats 4000000 in
theorem law17_shows (n : Nd) (w : World) (k f : Int) (A1 A2 : Option Addr) (n1 c1 n2 c2 : Nat) (li o : Int) (hT : FoldTab w) (hv : NodeV w (· < w.heap.size) n [.int .i64 k, .int .u8 f, .slice A1 n1 c1, .slice A2 n2 c2]) (ho : NdOk n) (hli : -9223372036854775808 ≤ li ∧ li ≤ 9223372036854775807) :
    Calls Tryd.prog 6 #[.agg #[.int .i64 k, .int .u8 f, .slice A1 n1 c1, .slice A2 n2 c2, .int .i64 li, .int .i64 o]] w fun e w' => e = .returned (.bool true) ∧ Keeps (· < w.heap.size) w w' := by
  have hkw : Keeps (· < w.heap.size) w (w.alloc (.cells #[.int .i64 k, .int .u8 f, .slice A1 n1 c1, .slice A2 n2 c2, .int .i64 li, .int .i64 o] 28)) := (Keeps.refl _ _).alloc (fun b hb => hb) _
  have hB : Blk (w.alloc (.cells #[.int .i64 k, .int .u8 f, .slice A1 n1 c1, .slice A2 n2 c2, .int .i64 li, .int .i64 o] 28)) w.heap.size [.int .i64 k, .int .u8 f, .slice A1 n1 c1, .slice A2 n2 c2, .int .i64 li, .int .i64 o] := Blk.new w _ _
  have hfx : ∀ W, Keeps (· < w.heap.size) w W → Calls Tryd.prog 8 #[] W fun e w' => e = .returned (.bool true) ∧ Keeps (· < w.heap.size) w w' := fun W hk => (law17_fixed W (hT.keep hk)).mono fun e w' h => ⟨h.1, hk.trans (h.2.mono fun b hb => Nat.lt_of_lt_of_le hb hk.size)⟩
  have hgr : ∀ W, Keeps (· < w.heap.size) w W → Calls Tryd.prog 17 #[.agg #[.int .i64 k, .int .u8 f, .slice A1 n1 c1, .slice A2 n2 c2]] W fun e w' => ∃ gr : Bool, e = .returned (.bool gr) ∧ (gr = false → ∃ m : Nat, Tot n m ∧ m < 3000) ∧ Keeps (· < W.heap.size) W w' := fun W hk => ref17_great n W (· < w.heap.size) k f A1 A2 n1 c1 n2 c2 (fun b h => Nat.lt_of_lt_of_le h hk.size) (hv.keep hk fun _ h => h) ho
  have hs1 : ∀ W m, Keeps (· < w.heap.size) w W → Tot n m → m < 3000 → Calls Tryd.prog 18 #[.agg #[.int .i64 k, .int .u8 f, .slice A1 n1 c1, .slice A2 n2 c2, .int .i64 li, .int .i64 o]] W fun e w' => e = .returned (.tuple #[.string ⟨(showR n li o).1.toArray⟩, .int .i64 (showR n li o).2]) ∧ Keeps (· < W.heap.size) W w' := fun W m hk ht hm => query_Show n W (· < w.heap.size) k f A1 A2 n1 c1 n2 c2 m li o (fun b h => Nat.lt_of_lt_of_le h hk.size) (hT.keep hk) (hv.keep hk fun _ h => h) ho ht (by omega) hli
  have hs2 : ∀ W m, Keeps (· < w.heap.size) w W → Tot n m → m < 3000 → Calls Tryd.prog 19 #[.agg #[.int .i64 k, .int .u8 f, .slice A1 n1 c1, .slice A2 n2 c2, .int .i64 li, .int .i64 o]] W fun e w' => e = .returned (.tuple #[.string ⟨(showR n li o).1.toArray⟩, .int .i64 (showR n li o).2]) ∧ Keeps (· < W.heap.size) W w' := fun W m hk ht hm => ref17_Show n W (· < w.heap.size) k f A1 A2 n1 c1 n2 c2 m li o (fun b h => Nat.lt_of_lt_of_le h hk.size) (hv.keep hk fun _ h => h) ho ht (by omega)
  clear hv ho hT hli
  obtain ⟨sr, er⟩ := showR n li o
  generalize (⟨sr.toArray⟩ : ByteArray) = ss at *
  have Hkw := hid hkw
  have HB := hid hB
  have Hfx := hid hfx
  have Hgr := hid hgr
  have Hs1 := hid hs1
  have Hs2 := hid hs2
  clear hkw hB hfx hgr hs1 hs2
  refine calls_hide fun R' hR' => ?_
  go_enter Tryd.func6, Tryd.ntmps6
  go_wp2_with fail
  refine (Hgr.out _ Hkw.out).mono ?_
  rintro e w2 ⟨gr, rfl, hg, hk⟩
  have hB2 := HB.out.keep hk HB.out.lt
  have hk2 := Hkw.out.trans (hk.mono fun b hb => Nat.lt_of_lt_of_le hb Hkw.out.size)
  clear hk Hgr HB
  cases gr with
  | true =>
    clear hg hB2
    have Hk2 := hid hk2
    clear hk2
    go_wp2_with fail
    refine (Hfx.out _ Hk2.out).mono ?_
    rintro e w3 ⟨rfl, hk3⟩
    have Hk3 := hid hk3
    clear hk3
    go_wp2_with fail
    exact hR'.out _ _ ⟨rfl, Hk3.out⟩
  | false =>
    obtain ⟨m, ht, hm⟩ := hg rfl
    have hlt := hB2.lt
    have hB3 := hid hB2
    have z0 := (hB2).cell 0
    have z1 := (hB2).cell 1
    have z2 := (hB2).cell 2
    have z3 := (hB2).cell 3
    have z4 := (hB2).cell 4
    have z5 := (hB2).cell 5
    simp only [List.getElem?_cons_zero, List.getElem?_cons_succ] at z0 z1 z2 z3 z4 z5
    clear hB2 hg
    have Hk2 := hid hk2
    have Ht := hid ht
    have Hm := hid hm
    clear hk2 ht hm
    go_wp2_with fail
    refine (Hs1.out _ m Hk2.out Ht.out Hm.out).mono ?_
    rintro e w3 ⟨rfl, hk⟩
    have hk3 := Hk2.out.trans (hk.mono fun b hb => Nat.lt_of_lt_of_le hb Hk2.out.size)
    have hB4 := hB3.out.keep hk hlt
    clear z0 z1 z2 z3 z4 z5 hlt hk hB3 Hk2
    have hlt := hB4.lt
    have z0 := (hB4).cell 0
    have z1 := (hB4).cell 1
    have z2 := (hB4).cell 2
    have z3 := (hB4).cell 3
    have z4 := (hB4).cell 4
    have z5 := (hB4).cell 5
    simp only [List.getElem?_cons_zero, List.getElem?_cons_succ] at z0 z1 z2 z3 z4 z5
    clear hB4
    have Hk3 := hid hk3
    clear hk3
    go_wp2_with fail
    refine (Hs2.out _ m Hk3.out Ht.out Hm.out).mono ?_
    rintro e w4 ⟨rfl, hk⟩
    have hk4 := Hk3.out.trans (hk.mono fun b hb => Nat.lt_of_lt_of_le hb Hk3.out.size)
    clear z0 z1 z2 z3 z4 z5 hlt hk Hk3
    have Hk4 := hid hk4
    clear hk4
    go_wp2_with fail
    refine (Hfx.out _ Hk4.out).mono ?_
    rintro e w5 ⟨rfl, hk5⟩
    have Hk5 := hid hk5
    clear hk5
    have f1 : (er == er) = true := by simp
    have f2 : (ss.toList == ss.toList) = true := by simp
    go_wp2_with fail
    exact hR'.out _ _ ⟨by first | rfl | simp, Hk5.out⟩
end Go.Proofs.YtbepgbkbpkaodaaDoor
