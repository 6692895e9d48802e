/- Layer 17 (query), Show: how great a tree is. -/
import Derived.Test.YtbepgbkbpkaodaaDoorSamA
namespace Go.Proofs.YtbepgbkbpkaodaaDoor
open Go.RowKit

/-- nodes, terms and bytes -/
def sumL {α : Type} (f : α → Nat) : List α → Nat
  | [] => 0
  | a :: l => f a + sumL f l
def textsN (ts : List (Int × ByteArray × Int)) : Nat := sumL (fun t => t.2.1.size) ts
inductive Tot : Nd → Nat → Prop
  | mk (k f : Int) (ts : List (Int × ByteArray × Int)) (kids : List Nd) (ns : List Nat) (hl : ns.length = kids.length) (hk : ∀ (i : Nat) (n : Nd) (m : Nat), kids[i]? = some n → ns[i]? = some m → Tot n m) : Tot (.mk k f ts kids) (1 + ts.length + textsN ts + sumL id ns)
theorem sumL_snoc {α : Type} (f : α → Nat) : ∀ (l : List α) (a : α), sumL f (l ++ [a]) = sumL f l + f a
  | [], a => by simp [sumL]
  | b :: l, a => by rw [List.cons_append, sumL, sumL, sumL_snoc f l a]; omega
theorem sumL_take {α : Type} (f : α → Nat) (l : List α) (i : Nat) (a : α) (h : l[i]? = some a) : sumL f (l.take (i + 1)) = sumL f (l.take i) + f a := by
  rw [List.take_add_one, h]; exact sumL_snoc f _ a

/-- what a tree that came in holds is in its types' ranges -/
inductive NdOk : Nd → Prop
  | mk (k f : Int) (ts : List (Int × ByteArray × Int)) (kids : List Nd) (h1 : -9223372036854775808 ≤ k ∧ k ≤ 9223372036854775807) (h2 : 0 ≤ f ∧ f ≤ 255)
      (h3 : ∀ t ∈ ts, (0 ≤ t.1 ∧ t.1 ≤ 255) ∧ t.2.1.size ≤ 140737488355328 ∧ (-9223372036854775808 ≤ t.2.2 ∧ t.2.2 ≤ 9223372036854775807)) (h5 : ts.length ≤ 140737488355328 ∧ kids.length ≤ 140737488355328) (h4 : ∀ n ∈ kids, NdOk n) : NdOk (.mk k f ts kids)
theorem kids_len4 {w : World} {K : Nat → Prop} {kids : List Nd} {css : List (List Value)} (hl : css.length = kids.length) (hk : ∀ (i : Nat) (n : Nd) (cs : List Value), kids[i]? = some n → css[i]? = some cs → NodeV w K n cs) : ∀ x ∈ css, (id x).length = 4 := fun x hx => by
  obtain ⟨j, hj⟩ := List.getElem?_of_mem hx
  obtain ⟨m', hm'⟩ : ∃ m, kids[j]? = some m := ⟨_, List.getElem?_eq_getElem (by have := (List.getElem?_eq_some_iff.1 hj).1; omega)⟩
  exact (hk j m' x hm' hj).len

set_option maxRecDepth 100000 in
set_option maxHeartbeats 4000000 in
theorem ref17_weight : ∀ (N : Nat) (n : Nd), SizeOf.sizeOf n ≤ N → ∀ (w : World) (K : Nat → Prop) (x0 x1 x2 x3 : Value) (dp sm : Int), (∀ b, K b → b < w.heap.size) → NodeV w K n [x0, x1, x2, x3] → NdOk n → 0 ≤ dp → dp ≤ 400 → 0 ≤ sm → sm ≤ 3000 →
    Calls Tryd.prog 34 #[.agg #[x0, x1, x2, x3], .int .i64 dp, .int .i64 sm] w fun e w' => ∃ r : Int, e = .returned (.int .i64 r) ∧ 0 ≤ r ∧ r ≤ 3000 ∧ (r < 3000 → ∃ m : Nat, Tot n m ∧ r = sm + m) ∧ Keeps (· < w.heap.size) w w' := by
  intro N
  induction N with
  | zero => intro n hn; cases n; simp at hn
  | succ N ih =>
    intro n hn w K x0 x1 x2 x3 dp sm hb h1 hok hdp0 hdp1 hsm0 hsm1
    cases h1 with
    | mk k f ts kids css v1 v2 ht hs hl hk =>
    cases hok with
    | mk _ _ _ _ o1 o2 o3 o5 o4 =>
    obtain ⟨A1, c1, rfl, _⟩ := id ht
    obtain ⟨A2, c2, rfl, _⟩ := id hs
    have hcp1 := ht.capOf
    have hcp2 := hs.capOf
    unfold maxLen at hcp1 hcp2
    obtain ⟨t1, t2⟩ := hcp1
    obtain ⟨s1, s2⟩ := hcp2
    have hkw : Keeps (· < w.heap.size) w (w.alloc (.cells #[.int .i64 k, .int .u8 f, .slice A1 ts.length c1, .slice A2 kids.length c2] 26)) := (Keeps.refl _ _).alloc (fun b hb => hb) _
    have hB : Blk (w.alloc (.cells #[.int .i64 k, .int .u8 f, .slice A1 ts.length c1, .slice A2 kids.length c2] 26)) w.heap.size [.int .i64 k, .int .u8 f, .slice A1 ts.length c1, .slice A2 kids.length c2] := Blk.new w _ _
    have hsz : (w.alloc (.cells #[.int .i64 k, .int .u8 f, .slice A1 ts.length c1, .slice A2 kids.length c2] 26)).heap.size = w.heap.size + 1 := by rw [World.size_alloc]
    have Ht := hid ht
    have Hs := hid hs
    have Hk := hid hk
    have Hb := hid hb
    have Ih := hid ih
    have O3 := hid o3
    have O4 := hid o4
    have Hkw := hid hkw
    have HB := hid hB
    clear ht hs hk hb ih o3 o4 hkw hB
    clear o1 o2
    refine calls_hide fun R' hR' => ?_
    go_enter Tryd.func34, Tryd.ntmps34
    by_cases hd0 : dp = 0
    · have hdb : (dp == 0) = true := by simp [hd0]
      clear hd0
      go_wp2_with fail
      exact hR'.out _ _ ⟨3000, rfl, by decide, by decide, fun h => absurd h (by decide), Hkw.out⟩
    have hdb : (dp == 0) = false := by simpa using hd0
    clear hd0
    have hlI : (ts.length : Int) ≤ 140737488355328 := by omega
    have hlK : (kids.length : Int) ≤ 140737488355328 := by omega
    clear o5
    by_cases hbig : 3000 ≤ sm + (1 + (ts.length : Int))
    · go_wp2_with fail
      exact hR'.out _ _ ⟨3000, rfl, by decide, by decide, fun h => absurd h (by decide), Hkw.out⟩
    go_wp2_with fail
    have hz := HB.out
    go_loopw [2, 24] (fun sv iv wx => ∃ i : Nat, sv = .int .i64 (sm + (1 + (ts.length : Int)) + (textsN (ts.take i) : Int)) ∧ iv = .int .i64 (i : Int) ∧ i ≤ ts.length ∧ sm + (1 + (ts.length : Int)) + (textsN (ts.take i) : Int) < 3000 ∧ w.alloc (.cells #[.int .i64 k, .int .u8 f, .slice A1 ts.length c1, .slice A2 kids.length c2] 26) = wx) (fun _ iv _ => ts.length - (intOf iv).toNat)
    case atStart => exact ⟨0, by simp [textsN, sumL], rfl, Nat.zero_le _, by simp [textsN, sumL]; omega, rfl⟩
    case round =>
      obtain ⟨i, rfl, rfl, hi, hlt, rfl⟩ := hrel
      have htx0 : (0 : Int) ≤ (textsN (ts.take i) : Int) := by omega
      have hZ := HB.out
      have hZl := hZ.lt
      have z0 := (hZ).cell 0
      have z1 := (hZ).cell 1
      have z2 := (hZ).cell 2
      have z3 := (hZ).cell 3
      simp only [List.getElem?_cons_zero, List.getElem?_cons_succ] at z0 z1 z2 z3
      clear hZ
      by_cases hin : i < ts.length
      · have hinI : (i : Int) < (ts.length : Int) := by omega
        obtain ⟨⟨tf, tt, tp⟩, hx⟩ : ∃ x, ts[i]? = some x := ⟨_, List.getElem?_eq_getElem hin⟩
        obtain ⟨b1, o1, rfl, hk1, g1⟩ := SlAt.rec (f := tokG) (fun _ _ => rfl) Ht.out i _ hx
        have hh1 := Hb.out _ hk1
        have a1 := (World.cell?_of_block (a := ⟨b1, o1 + i * 3 + 1, none⟩) (Hkw.out.block b1 hh1)).trans (g1 1 _ rfl)
        have hts := sumL_take (fun t : Int × ByteArray × Int => t.2.1.size) ts i _ hx
        have hts : textsN (ts.take (i + 1)) = textsN (ts.take i) + tt.size := hts
        have htt : tt.size ≤ 140737488355328 := (O3.out _ (List.mem_of_getElem? hx)).2.1
        have httI : (tt.size : Int) ≤ 140737488355328 := by
          omega
        clear htt g1 hx
        generalize textsN (ts.take i) = tn at *
        by_cases hb2 : 3000 ≤ sm + (1 + (ts.length : Int)) + (tn : Int) + (tt.size : Int)
        · clear hts
          go_wp2_with fail
          exact hR'.out _ _ ⟨3000, rfl, by decide, by decide, fun h => absurd h (by decide), Hkw.out⟩
        · have hb3 : sm + (1 + (ts.length : Int)) + (tn : Int) + (tt.size : Int) < 3000 := by omega
          have Hts := hid hts
          clear hts
          go_wp2_with fail
          go_roundw
          case rel => exact ⟨i + 1, by rw [Hts.out]; congr 1; omega, by go_num, by omega, by rw [Hts.out]; omega, by first | trivial | rfl⟩
          case measure => first | (simp [intOf]; done) | (simp [intOf]; omega)
      · obtain rfl : i = ts.length := by omega
        have hinI : ¬ (ts.length : Int) < (ts.length : Int) := by omega
        rw [List.take_length] at *
        obtain ⟨base, hbase⟩ : ∃ x : Nat, x = 1 + ts.length + textsN ts := ⟨_, rfl⟩
        have hsb : sm + (1 + (ts.length : Int)) + (textsN ts : Int) = sm + (base : Int) := by omega
        rw [hsb] at hlt ⊢
        clear hsb htx0
        have Hbase := hid hbase
        clear hbase
        go_wp2_with fail
        clear z0 z1 z2 z3
        go_loopw [2, 42] (fun sv iv wx => ∃ (i : Nat) (ns : List Nat), sv = .int .i64 (sm + (base : Int) + (sumL id ns : Int)) ∧ iv = .int .i64 (i : Int) ∧ i ≤ kids.length ∧ ns.length = i ∧ sm + (base : Int) + (sumL id ns : Int) < 3000 ∧ Hid (∀ (j : Nat) (n : Nd) (m : Nat), kids[j]? = some n → ns[j]? = some m → Tot n m) ∧ Hid (Keeps (· < w.heap.size + 1) (w.alloc (.cells #[.int .i64 k, .int .u8 f, .slice A1 ts.length c1, .slice A2 kids.length c2] 26)) wx)) (fun _ iv _ => kids.length - (intOf iv).toNat)
        case atStart => exact ⟨0, [], by simp [sumL], rfl, Nat.zero_le _, rfl, by simp [sumL]; omega, hid (fun j n m _ h => by simp at h), hid (Keeps.refl _ _)⟩
        case round =>
          obtain ⟨i, ns, rfl, rfl, hi, hnl, hlt2, HT, HK2⟩ := hrel
          have hns0 : (0 : Int) ≤ (sumL id ns : Int) := by omega
          have hZ := HB.out.keep HK2.out (by show w.heap.size < w.heap.size + 1; omega)
          have hZl := hZ.lt
          have z0 := (hZ).cell 0
          have z1 := (hZ).cell 1
          have z2 := (hZ).cell 2
          have z3 := (hZ).cell 3
          simp only [List.getElem?_cons_zero, List.getElem?_cons_succ] at z0 z1 z2 z3
          clear hZ
          by_cases hin : i < kids.length
          · have hinI : (i : Int) < (kids.length : Int) := by omega
            obtain ⟨m, hm⟩ : ∃ m, kids[i]? = some m := ⟨_, List.getElem?_eq_getElem hin⟩
            obtain ⟨a, ha⟩ : ∃ a, css[i]? = some a := ⟨_, List.getElem?_eq_getElem (by omega)⟩
            have hN1 := Hk.out i m a hm ha
            obtain ⟨p0, p1, E1, m1, d1, E2, m2, d2, rfl⟩ := hN1.form
            have hS1 := Hs.out
            rw [← hl, ← List.flatMap_id] at hS1
            obtain ⟨b1, o1, rfl, hkb1, c1'⟩ := SlAt.rec (f := id) (kids_len4 hl Hk.out) hS1 i _ ha
            have hh1 := Hb.out _ hkb1
            have hkk : Keeps (· < w.heap.size) w wr := Hkw.out.trans (HK2.out.mono fun b hb => by omega)
            have tr : ∀ b o u, b < w.heap.size → w.cell? ⟨b, o, none⟩ = some u → wr.cell? ⟨b, o, none⟩ = some u := fun b o u hb hc => (World.cell?_of_block (a := ⟨b, o, none⟩) (hkk.block b hb)).trans hc
            have a0 := tr _ _ _ hh1 (c1' 0 _ rfl)
            have a1 := tr _ _ _ hh1 (c1' 1 _ rfl)
            have a2 := tr _ _ _ hh1 (c1' 2 _ rfl)
            have a3 := tr _ _ _ hh1 (c1' 3 _ rfl)
            simp only [Nat.add_zero] at a0
            have hsm : SizeOf.sizeOf m ≤ N := by have := Nd.kid_size (k := k) (f := f) (ts := ts) hm; omega
            have hdp3 : 0 ≤ dp - 1 := by
              have : dp ≠ 0 := by simpa using hdb
              omega
            have hcall := Ih.out m hsm wr K _ _ _ _ (dp - 1) (sm + (base : Int) + (sumL id ns : Int)) (fun b hb => Nat.lt_of_lt_of_le (Hb.out b hb) hkk.size) (hN1.keepK hkk Hb.out) (O4.out m (List.mem_of_getElem? hm)) hdp3 (by omega) (by omega) (by omega)
            clear hN1 hS1 tr c1' ha
            have Hcall := hid hcall
            have Hm := hid hm
            clear hcall hm
            clear hkk
            go_wp2_with fail
            refine Hcall.out.mono ?_
            rintro e w3 ⟨r, rfl, hr0, hr1, hrt, hk3⟩
            have hK3 := HK2.out.trans (hk3.mono fun b hb => by have := HK2.out.size; rw [World.size_alloc] at this; omega)
            clear a0 a1 a2 a3 z0 z1 z2 z3 Hcall
            by_cases h3 : 3000 ≤ r
            · have hkf := Hkw.out.trans (hK3.mono fun b hb => by omega)
              clear hrt hk3
              have Hkf := hid hkf
              clear hkf
              go_wp2_with fail
              exact hR'.out _ _ ⟨3000, rfl, by decide, by decide, fun h => absurd h (by decide), Hkf.out⟩
            · obtain ⟨mt, hmt, hre⟩ := hrt (by omega)
              have hT2 : ∀ (j : Nat) (n : Nd) (x : Nat), kids[j]? = some n → (ns ++ [mt])[j]? = some x → Tot n x := fun j n x h1 h2 => by
                by_cases hj : j < ns.length
                · rw [List.getElem?_append_left hj] at h2
                  exact HT.out j n x h1 h2
                · rw [List.getElem?_append_right (by omega)] at h2
                  have hj0 : j = i := by
                    apply Decidable.byContradiction
                    intro h0
                    rw [List.getElem?_eq_none (by simp; omega)] at h2
                    cases h2
                  subst hj0
                  rw [Hm.out] at h1
                  rw [hnl, Nat.sub_self] at h2
                  injection h1 with h1
                  injection h2 with h2
                  subst h1 h2
                  exact hmt
              have hsn := sumL_snoc id ns mt
              have hln2 : (ns ++ [mt]).length = i + 1 := by simp [hnl]
              have hsn : sumL id (ns ++ [mt]) = sumL id ns + mt := hsn
              have hre2 : r = sm + (base : Int) + (sumL id (ns ++ [mt]) : Int) := by rw [hsn]; omega
              have h3I : r < 3000 := by omega
              generalize ns ++ [mt] = ns2 at *
              clear hrt hk3 hmt hre hsn h3
              have HT2 := hid hT2
              have HK3 := hid hK3
              have Hre2 := hid hre2
              clear hT2 hK3 hre2
              go_wp2_with fail
              go_roundw
              case rel => exact ⟨i + 1, ns2, by rw [Hre2.out], by go_num, by omega, hln2, by rw [← Hre2.out]; exact h3I, HT2, HK3⟩
              case measure => first | (simp [intOf]; done) | (simp [intOf]; omega)
          · obtain rfl : i = kids.length := by omega
            have hinI : ¬ (kids.length : Int) < (kids.length : Int) := by omega
            have hkf := Hkw.out.trans (HK2.out.mono fun b hb => by omega)
            have htot : Tot (.mk k f ts kids) (1 + ts.length + textsN ts + sumL id ns) := Tot.mk k f ts kids ns hnl HT.out
            rw [← Hbase.out] at htot
            have hr0 : 0 ≤ sm + (base : Int) + (sumL id ns : Int) := by omega
            have Hkf := hid hkf
            have Htot := hid htot
            clear hkf htot
            go_wp2_with fail
            exact hR'.out _ _ ⟨sm + (base : Int) + (sumL id ns : Int), rfl, by omega, by omega, fun _ => ⟨base + sumL id ns, Htot.out, by omega⟩, Hkf.out⟩
set_option maxRecDepth 100000 in
set_option maxHeartbeats 1000000 in
theorem ref17_great (n : Nd) (w : World) (K : Nat → Prop) (k f : Int) (A1 A2 : Option Addr) (n1 c1 n2 c2 : Nat) (hb : ∀ b, K b → b < w.heap.size) (h1 : NodeV w K n [.int .i64 k, .int .u8 f, .slice A1 n1 c1, .slice A2 n2 c2]) (hok : NdOk n) :
    Calls Tryd.prog 17 #[.agg #[.int .i64 k, .int .u8 f, .slice A1 n1 c1, .slice A2 n2 c2]] w fun e w' => ∃ gr : Bool, e = .returned (.bool gr) ∧ (gr = false → ∃ m : Nat, Tot n m ∧ m < 3000) ∧ Keeps (· < w.heap.size) w w' := by
  have hk : Keeps (· < w.heap.size) w (w.alloc (.cells #[.int .i64 k, .int .u8 f, .slice A1 n1 c1, .slice A2 n2 c2] 26)) := (Keeps.refl _ _).alloc (fun b hb => hb) _
  have hw := ref17_weight _ n (Nat.le_refl _) _ K _ _ _ _ 400 0 (fun b h => Nat.lt_of_lt_of_le (hb b h) hk.size) (h1.keepK hk hb) hok (by decide) (by decide) (by decide) (by decide)
  clear h1
  have Hk := hid hk
  have Hw := hid hw
  clear hk hw
  refine calls_hide fun R' hR' => ?_
  go_enter Tryd.func17, Tryd.ntmps17
  go_wp2_with fail
  refine Hw.out.mono ?_
  rintro e w2 ⟨r, rfl, hr0, hr1, hrt, hk2⟩
  have hk3 := Hk.out.trans (hk2.mono fun b hb => Nat.lt_of_lt_of_le hb Hk.out.size)
  clear hk2
  by_cases h3 : 3000 ≤ r
  · clear hrt
    have Hk3 := hid hk3
    clear hk3
    go_wp2_with fail
    exact hR'.out _ _ ⟨true, rfl, fun h => absurd h (by decide), Hk3.out⟩
  · have hm : ∃ m : Nat, Tot n m ∧ m < 3000 := by
      obtain ⟨m, h4, h5⟩ := hrt (by omega)
      exact ⟨m, h4, by omega⟩
    have h3r : r < 3000 := by omega
    clear hrt h3
    have Hk3 := hid hk3
    have Hm := hid hm
    clear hk3 hm
    go_wp2_with fail
    exact hR'.out _ _ ⟨decide (3000 ≤ r), rfl, fun _ => Hm.out, Hk3.out⟩
end Go.Proofs.YtbepgbkbpkaodaaDoor
