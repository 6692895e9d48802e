/- The references' Same of words: true where both hold the same. -/
import Derived.Test.YtbepgbkbpkaodaaDoorQryT
namespace Go.Proofs.YtbepgbkbpkaodaaDoor
open Go.RowKit

/-- a record of a row -/
theorem SlAt.rec {α : Type} {f : α → List Value} {sz : Nat} {w : World} {K : Nat → Prop} {A : Option Addr} {c : Nat} {xs : List α} (hf : ∀ x ∈ xs, (f x).length = sz) (h : SlAt w K sz (.slice A xs.length c) xs.length (xs.flatMap f)) (i : Nat) (x : α) (hi : xs[i]? = some x) :
    ∃ b off, A = some ⟨b, off, none⟩ ∧ K b ∧ ∀ j u, (f x)[j]? = some u → w.cell? ⟨b, off + i * sz + j, none⟩ = some u := by
  obtain ⟨A', cap, h1, h2, h3, h4, h5⟩ := h
  have hlt := (List.getElem?_eq_some_iff.1 hi).1
  obtain ⟨b, off, e, hb, hc⟩ := h5 (by omega)
  injection h1 with h1
  subst e
  refine ⟨b, off, h1, hb, fun j u hu => ?_⟩
  have hj := (List.getElem?_eq_some_iff.1 hu).1
  rw [hf x (List.mem_of_getElem? hi)] at hj
  have key : ∀ (ys : List α) (k : Nat), (∀ x ∈ ys, (f x).length = sz) → ys[k]? = some x → (ys.flatMap f)[k * sz + j]? = some u := by
    intro ys
    induction ys with
    | nil => intro k _ hk; simp at hk
    | cons y ys ih =>
      intro k hf hk
      have hy := hf y List.mem_cons_self
      cases k with
      | zero =>
        simp only [List.getElem?_cons_zero, Option.some.injEq] at hk
        subst hk
        rw [List.flatMap_cons, Nat.zero_mul, Nat.zero_add, List.getElem?_append_left (by rw [hy]; exact hj)]
        exact hu
      | succ k =>
        rw [List.getElem?_cons_succ] at hk
        have e : (k + 1) * sz + j = sz + (k * sz + j) := by rw [Nat.succ_mul]; omega
        rw [List.flatMap_cons, e, List.getElem?_append_right (by rw [hy]; omega), hy, Nat.add_sub_cancel_left]
        exact ih k (fun x hx => hf x (List.mem_cons_of_mem _ hx)) hk
  rw [Nat.add_assoc]
  exact hc _ u (key xs i hf hi)
theorem SlAt.capOf {w : World} {K : Nat → Prop} {sz n : Nat} {A : Option Addr} {c : Nat} {xs : List Value} (h : SlAt w K sz (.slice A n c) n xs) : n ≤ c ∧ c ≤ maxLen := by
  obtain ⟨A', cap, h1, h2, h3, _⟩ := h
  injection h1 with _ _ hc
  subst hc
  exact ⟨h2, h3⟩

set_option maxRecDepth 100000 in
set_option maxHeartbeats 2000000 in
theorem ref6_same (w : World) (K1 K2 : Nat → Prop) (ts : List (Int × ByteArray × Int)) (A1 A2 : Option Addr) (c1 c2 : Nat) (hb1 : ∀ b, K1 b → b < w.heap.size) (hb2 : ∀ b, K2 b → b < w.heap.size)
    (h1 : SlAt w K1 3 (.slice A1 ts.length c1) ts.length (ts.flatMap tokG)) (h2 : SlAt w K2 3 (.slice A2 ts.length c2) ts.length (ts.flatMap tokG)) :
    Calls Tryd.prog 21 #[.slice A1 ts.length c1, .slice A2 ts.length c2] w fun e w' => e = .returned (.bool true) ∧ Keeps (· < w.heap.size) w w' := by
  obtain ⟨hc1, hm1⟩ := h1.capOf
  have hlb : ((ts.length : Int) != (ts.length : Int)) = false := by simp
  unfold maxLen at hm1
  have H1 := hid h1
  have H2 := hid h2
  clear h1 h2
  refine calls_hide fun R' hR' => ?_
  go_enter Tryd.func21, Tryd.ntmps21
  go_wp2_with fail
  go_loopw [13] (fun iv wr => ∃ i : Nat, iv = .int .i64 (i : Int) ∧ i ≤ ts.length ∧ Hid (Keeps (· < w.heap.size) w wr)) (fun iv _ => ts.length - (intOf iv).toNat)
  case atStart => exact ⟨0, rfl, Nat.zero_le _, hid (Keeps.refl _ _)⟩
  case round =>
    obtain ⟨i, rfl, hi, HK⟩ := hrel
    by_cases hlt : i < ts.length
    · have hltI : (i : Int) < (ts.length : Int) := by omega
      obtain ⟨⟨f, t, p⟩, hx⟩ : ∃ x, ts[i]? = some x := ⟨_, List.getElem?_eq_getElem hlt⟩
      obtain ⟨b1, o1, rfl, hk1, g1⟩ := SlAt.rec (f := tokG) (fun _ _ => rfl) H1.out i _ hx
      obtain ⟨b2, o2, rfl, hk2, g2⟩ := SlAt.rec (f := tokG) (fun _ _ => rfl) H2.out i _ hx
      have hh1 := hb1 _ hk1
      have hh2 := hb2 _ hk2
      have tr : ∀ b o u, b < w.heap.size → w.cell? ⟨b, o, none⟩ = some u → wr.cell? ⟨b, o, none⟩ = some u := fun b o u hb hc => (World.cell?_of_block (a := ⟨b, o, none⟩) (HK.out.block b hb)).trans hc
      have a0 := tr _ _ _ hh1 (g1 0 _ rfl)
      have a1 := tr _ _ _ hh1 (g1 1 _ rfl)
      have a2 := tr _ _ _ hh1 (g1 2 _ rfl)
      have b0 := tr _ _ _ hh2 (g2 0 _ rfl)
      have b1 := tr _ _ _ hh2 (g2 1 _ rfl)
      have b2 := tr _ _ _ hh2 (g2 2 _ rfl)
      clear tr g1 g2
      simp only [Nat.add_zero] at a0 b0
      go_wp2_with fail
      go_quiet (fail)
      have hk2 := HK.out.drewN nq
      clear HK a0 a1 a2 b0 b1 b2
      have Hk2 := hid hk2
      clear hk2
      go_wp2_with fail
      go_roundw
      case rel => exact ⟨i + 1, by go_num, by omega, Hk2⟩
      case measure => first | (simp [intOf]; done) | (simp [intOf]; omega)
    · have hltI : ¬ (i : Int) < (ts.length : Int) := by omega
      go_wp2_with fail
      exact hR'.out _ _ ⟨rfl, HK.out⟩

theorem Nd.kid_size {k f : Int} {ts : List (Int × ByteArray × Int)} {kids : List Nd} {n : Nd} {i : Nat} (h : kids[i]? = some n) : SizeOf.sizeOf n < SizeOf.sizeOf (Nd.mk k f ts kids) := by
  have := List.sizeOf_lt_of_mem (List.mem_of_getElem? h)
  simp only [Nd.mk.sizeOf_spec]
  omega
set_option maxRecDepth 100000 in
set_option maxHeartbeats 4000000 in
theorem ref17_same : ∀ (N : Nat) (n : Nd), SizeOf.sizeOf n ≤ N → ∀ (w : World) (K1 K2 : Nat → Prop) (x0 x1 x2 x3 y0 y1 y2 y3 : Value), (∀ b, K1 b → b < w.heap.size) → (∀ b, K2 b → b < w.heap.size) → NodeV w K1 n [x0, x1, x2, x3] → NodeV w K2 n [y0, y1, y2, y3] →
    Calls Tryd.prog 14 #[.agg #[x0, x1, x2, x3], .agg #[y0, y1, y2, y3]] w fun e w' => e = .returned (.bool true) ∧ Keeps (· < w.heap.size) w w' := by
  intro N
  induction N with
  | zero => intro n hn; cases n; simp at hn
  | succ N ih =>
    intro n hn w K1 K2 x0 x1 x2 x3 y0 y1 y2 y3 hb1 hb2 h1 h2
    cases h1 with
    | mk k f ts kids css1 v1 v2 ht1 hs1 hl1 hk1 =>
    cases h2 with
    | mk _ _ _ _ css2 v3 v4 ht2 hs2 hl2 hk2 =>
    obtain ⟨A1, c1, rfl, _⟩ := id ht1
    obtain ⟨A2, c2, rfl, _⟩ := id hs1
    obtain ⟨A3, c3, rfl, _⟩ := id ht2
    obtain ⟨A4, c4, rfl, _⟩ := id hs2
    have hcp := hs1.capOf
    unfold maxLen at hcp
    obtain ⟨hcp1, hcp2⟩ := hcp
    have g1 : (k != k) = false := by simp
    have g2 : (f != f) = false := by simp
    have g3 : ((kids.length : Int) != (kids.length : Int)) = false := by simp
    have hkw : Keeps (· < w.heap.size) w ((w.alloc (.cells #[.int .i64 k, .int .u8 f, .slice A1 ts.length c1, .slice A2 kids.length c2] 26)).alloc (.cells #[.int .i64 k, .int .u8 f, .slice A3 ts.length c3, .slice A4 kids.length c4] 26)) := ((Keeps.refl _ _).alloc (fun b hb => hb) _).alloc (fun b hb => by simp; omega) _
    have hB1 : Blk ((w.alloc (.cells #[.int .i64 k, .int .u8 f, .slice A1 ts.length c1, .slice A2 kids.length c2] 26)).alloc (.cells #[.int .i64 k, .int .u8 f, .slice A3 ts.length c3, .slice A4 kids.length c4] 26)) w.heap.size [.int .i64 k, .int .u8 f, .slice A1 ts.length c1, .slice A2 kids.length c2] := (Blk.new w [.int .i64 k, .int .u8 f, .slice A1 ts.length c1, .slice A2 kids.length c2] _).alloc _
    have hB2 : Blk ((w.alloc (.cells #[.int .i64 k, .int .u8 f, .slice A1 ts.length c1, .slice A2 kids.length c2] 26)).alloc (.cells #[.int .i64 k, .int .u8 f, .slice A3 ts.length c3, .slice A4 kids.length c4] 26)) (w.heap.size + 1) [.int .i64 k, .int .u8 f, .slice A3 ts.length c3, .slice A4 kids.length c4] := Blk.new' _ [.int .i64 k, .int .u8 f, .slice A3 ts.length c3, .slice A4 kids.length c4] _ (by simp)
    have Hkw := hid hkw
    have HB1 := hid hB1
    have HB2 := hid hB2
    have Ht1 := hid ht1
    have Ht2 := hid ht2
    have Hs1 := hid hs1
    have Hs2 := hid hs2
    have Hk1 := hid hk1
    have Hk2 := hid hk2
    have Hb1 := hid hb1
    have Hb2 := hid hb2
    have Ih := hid ih
    clear hkw hB1 hB2 ht1 ht2 hs1 hs2 hk1 hk2 hb1 hb2 ih
    refine calls_hide fun R' hR' => ?_
    go_enter Tryd.func14, Tryd.ntmps14
    go_wp2_with fail
    refine (ref6_same _ K1 K2 ts A1 A3 c1 c3 (fun b hb => by have := Hb1.out b hb; have := Hkw.out.size; omega) (fun b hb => by have := Hb2.out b hb; have := Hkw.out.size; omega) (Ht1.out.keep Hkw.out Hb1.out) (Ht2.out.keep Hkw.out Hb2.out)).mono ?_
    rintro e w2 ⟨rfl, hk⟩
    have hk9 := Hkw.out.trans (hk.mono fun b hb => by simp; omega)
    have hC1 := HB1.out.keep hk HB1.out.lt
    have hC2 := HB2.out.keep hk HB2.out.lt
    clear hk HB1 HB2 Hkw
    have z3 := hC1.cell 3
    have z4 := hC2.cell 3
    simp only [List.getElem?_cons_zero, List.getElem?_cons_succ] at z3 z4
    have HK := hid hk9
    have HC1 := hid hC1
    have HC2 := hid hC2
    clear hk9 hC1 hC2
    go_wp2_with fail
    go_loopw [38] (fun iv wr => ∃ i : Nat, iv = .int .i64 (i : Int) ∧ i ≤ kids.length ∧ Hid (Keeps (· < w2.heap.size) w2 wr)) (fun iv _ => kids.length - (intOf iv).toNat)
    case atStart => exact ⟨0, rfl, Nat.zero_le _, hid (Keeps.refl _ _)⟩
    case round =>
      clear z3 z4
      obtain ⟨i, rfl, hi, HL⟩ := hrel
      by_cases hlt : i < kids.length
      · have hltI : (i : Int) < (kids.length : Int) := by omega
        obtain ⟨m, hm⟩ : ∃ m, kids[i]? = some m := ⟨_, List.getElem?_eq_getElem hlt⟩
        obtain ⟨a, ha⟩ : ∃ a, css1[i]? = some a := ⟨_, List.getElem?_eq_getElem (by omega)⟩
        obtain ⟨b, hb⟩ : ∃ b, css2[i]? = some b := ⟨_, List.getElem?_eq_getElem (by omega)⟩
        have hN1 := Hk1.out i m a hm ha
        have hN2 := Hk2.out i m b hm hb
        have hf1 : ∀ x ∈ css1, (id x).length = 4 := fun x hx => by
          obtain ⟨j, hj⟩ := List.getElem?_of_mem hx
          obtain ⟨m', hm'⟩ : ∃ m, kids[j]? = some m := ⟨_, List.getElem?_eq_getElem (by have := (List.getElem?_eq_some_iff.1 hj).1; omega)⟩
          exact (Hk1.out j m' x hm' hj).len
        have hf2 : ∀ x ∈ css2, (id x).length = 4 := fun x hx => by
          obtain ⟨j, hj⟩ := List.getElem?_of_mem hx
          obtain ⟨m', hm'⟩ : ∃ m, kids[j]? = some m := ⟨_, List.getElem?_eq_getElem (by have := (List.getElem?_eq_some_iff.1 hj).1; omega)⟩
          exact (Hk2.out j m' x hm' hj).len
        obtain ⟨p0, p1, E1, m1, d1, E2, m2, d2, rfl⟩ := hN1.form
        obtain ⟨r0, r1, F1, s1, e1, F2, s2, e2, rfl⟩ := hN2.form
        have hS1 := Hs1.out
        have hS2 := Hs2.out
        rw [← hl1, ← List.flatMap_id] at hS1
        rw [← hl2, ← List.flatMap_id] at hS2
        obtain ⟨b1, o1, rfl, hkb1, c1'⟩ := SlAt.rec (f := id) hf1 hS1 i _ ha
        obtain ⟨b2, o2, rfl, hkb2, c2'⟩ := SlAt.rec (f := id) hf2 hS2 i _ hb
        have hh1 := Hb1.out _ hkb1
        have hh2 := Hb2.out _ hkb2
        have hsz := HK.out.size
        have hszL := HL.out.size
        have tr : ∀ b o u, b < w.heap.size → w.cell? ⟨b, o, none⟩ = some u → wr.cell? ⟨b, o, none⟩ = some u := fun b o u hb hc => (World.cell?_of_block (a := ⟨b, o, none⟩) ((HL.out.block b (by omega)).trans (HK.out.block b hb))).trans hc
        have q1 := HC1.out.keep HL.out HC1.out.lt
        have q2 := HC2.out.keep HL.out HC2.out.lt
        have z3 := q1.cell 3
        have z4 := q2.cell 3
        simp only [List.getElem?_cons_zero, List.getElem?_cons_succ] at z3 z4
        have c0 := fun p : KP wr wr.heap.size => KP.cell q1.lt z3 p
        have c1 := fun p : KP wr wr.heap.size => KP.cell q2.lt z4 p
        have a0 := fun p : KP wr wr.heap.size => KP.cell (by omega) (tr _ _ _ hh1 (c1' 0 _ rfl)) p
        have a1 := fun p : KP wr wr.heap.size => KP.cell (by omega) (tr _ _ _ hh1 (c1' 1 _ rfl)) p
        have a2 := fun p : KP wr wr.heap.size => KP.cell (by omega) (tr _ _ _ hh1 (c1' 2 _ rfl)) p
        have a3 := fun p : KP wr wr.heap.size => KP.cell (by omega) (tr _ _ _ hh1 (c1' 3 _ rfl)) p
        have b0 := fun p : KP wr wr.heap.size => KP.cell (by omega) (tr _ _ _ hh2 (c2' 0 _ rfl)) p
        have b1 := fun p : KP wr wr.heap.size => KP.cell (by omega) (tr _ _ _ hh2 (c2' 1 _ rfl)) p
        have b2 := fun p : KP wr wr.heap.size => KP.cell (by omega) (tr _ _ _ hh2 (c2' 2 _ rfl)) p
        have b3 := fun p : KP wr wr.heap.size => KP.cell (by omega) (tr _ _ _ hh2 (c2' 3 _ rfl)) p
        simp only [Nat.add_zero] at a0 b0
        have hsm : SizeOf.sizeOf m ≤ N := by have := Nd.kid_size (k := k) (f := f) (ts := ts) hm; omega
        have hMq : ∀ p : KP wr wr.heap.size, Calls Tryd.prog 14 #[.agg #[.int .i64 p0, .int .u8 p1, .slice E1 m1 d1, .slice E2 m2 d2], .agg #[.int .i64 r0, .int .u8 r1, .slice F1 s1 e1, .slice F2 s2 e2]] p.w fun e w' => e = .returned (.bool true) ∧ ∃ q : KP wr wr.heap.size, w' = q.w := fun p => by
          have hkp : Keeps (· < w.heap.size) w p.w := HK.out.trans ((HL.out.mono fun b hb => by omega).trans (p.k.mono fun b hb => by omega))
          have hps := hkp.size
          exact p.calls (Nat.le_refl _) (Ih.out m hsm p.w K1 K2 _ _ _ _ _ _ _ _ (fun b hb => Nat.lt_of_lt_of_le (Hb1.out b hb) hps) (fun b hb => Nat.lt_of_lt_of_le (Hb2.out b hb) hps) (hN1.keepK hkp Hb1.out) (hN2.keepK hkp Hb2.out))
        have HMq := hid hMq
        clear hMq
        clear hN1 hN2 hS1 hS2 hf1 hf2 tr q1 q2 z3 z4 hm ha hb c1' c2' hsm
        go_upto_region 6 with fail
        refine wp_region_class wr.heap.size (by kernel_rfl) (by kernel_rfl) ?_
        repeat (go_big_quiet_step ((exact HMq.out _)))
        refine wpQuiet_nil ?_
        rintro _ ⟨⟨wq, hkq⟩, rfl⟩
        have hL2 := HL.out.trans (hkq.mono fun b hb => by omega)
        clear c0 c1 a0 a1 a2 a3 b0 b1 b2 b3 HL
        have HL2 := hid hL2
        clear hL2
        go_wp2_with fail
        go_roundw
        case rel => exact ⟨i + 1, by go_num, by omega, HL2⟩
        case measure => first | (simp [intOf]; done) | (simp [intOf]; omega)
      · have hltI : ¬ (i : Int) < (kids.length : Int) := by omega
        have hsz := HK.out.size
        go_wp2_with fail
        exact hR'.out _ _ ⟨rfl, HK.out.trans (HL.out.mono fun b hb => by omega)⟩
end Go.Proofs.YtbepgbkbpkaodaaDoor
