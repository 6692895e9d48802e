/- Layer 17's statements: QueryBack. -/
import Derived.Test.YtbepgbkbpkaodaaDoorShLaw
import Derived.Test.YtbepgbkbpkaodaaDoorBkD
namespace Go.Proofs.YtbepgbkbpkaodaaDoor
open Go.RowKit

/-- no error of the parse is 0 -/
def ErrNZ (f : List Int → PRes) : Prop := ∀ l e, f l = .error e → e ≠ 0
theorem loopS_nz {f : List Int → PRes} {more : List Int → Bool × List Int} {kind : Int} (hf : Prog f) (hm : ∀ l, (more l).2.length ≤ l.length) (he : ErrNZ f) : ∀ (k : Nat) (kids : List Nd) (l : List Int) (e : Int), l.length < k → loopS f more kind k kids l = .error e → e ≠ 0
  | 0, _, _, _, h, _ => absurd h (Nat.not_lt_zero _)
  | k + 1, kids, l, e, hl, h => by
    unfold loopS at h
    by_cases h1 : (more l).1 = true
    · rw [if_pos h1] at h
      cases hr : f (more l).2 with
      | error e' =>
        rw [hr] at h
        injection h with h
        subst h
        exact he _ _ hr
      | ok x =>
        obtain ⟨n, r⟩ := x
        rw [hr] at h
        have h2 := hf _ _ _ hr
        have h3 := hm l
        exact loopS_nz hf hm he k _ r e (by omega) h
    · rw [if_neg h1] at h
      cases h
theorem listOf_nz {f : List Int → PRes} {more : List Int → Bool × List Int} {kind : Int} (hf : Prog f) (hm : ∀ l, (more l).2.length ≤ l.length) (he : ErrNZ f) : ErrNZ (listOf f more kind) := fun l e h => by
  unfold listOf at h
  cases hr : f l with
  | error e' =>
    rw [hr] at h
    injection h with h
    subst h
    exact he _ _ hr
  | ok x =>
    obtain ⟨n, r⟩ := x
    rw [hr] at h
    exact loopS_nz hf hm he _ _ r e (Nat.lt_succ_self _) h
theorem leafTS_nz {f : Int} {t : ByteArray} {l : List Int} {e : Int} (h : leafTS f t l = .error e) : e ≠ 0 := by
  unfold leafTS at h
  split at h
  · cases h
  · split at h
    · split at h
      · cases h
      · injection h with h; subst h; decide
    · injection h with h; subst h; decide
theorem leafS_nz : ErrNZ leafS := fun l e h => by
  unfold leafS at h
  split at h <;> exact leafTS_nz h
theorem orOf_nz {f : List Int → PRes} (hf : Prog f) (he : ErrNZ f) : ErrNZ (orOf f) := listOf_nz (andOf_prog hf) orM_le (listOf_nz hf andM_le he)
theorem notS_nz : ∀ m, ErrNZ (notS m)
  | 0 => fun l e h => by
    unfold notS at h
    split at h
    · injection h with h; subst h; decide
    · split at h
      · injection h with h; subst h; decide
      · exact leafS_nz _ _ h
  | m + 1 => fun l e h => by
    unfold notS at h
    split at h
    · cases hr : notS m (afterS 33 l) with
      | error e' =>
        rw [hr] at h
        injection h with h
        subst h
        exact notS_nz m _ _ hr
      | ok x => obtain ⟨n, r⟩ := x; rw [hr] at h; cases h
    · split at h
      · cases hr : orOf (notS m) (afterS 40 (afterS 33 l)) with
        | error e' =>
          rw [hr] at h
          injection h with h
          subst h
          exact orOf_nz (notS_prog m) (notS_nz m) _ _ hr
        | ok x =>
          obtain ⟨n, r⟩ := x
          rw [hr] at h
          dsimp only at h
          split at h
          · cases h
          · injection h with h; subst h; decide
      · exact leafS_nz _ _ h
theorem tailS_nz : ∀ (k : Nat) (li o : Int) (l : List Int) (e : Int), l.length < k → tailS k li o l = .error e → e ≠ 0
  | 0, _, _, _, _, h, _ => absurd h (Nat.not_lt_zero _)
  | k + 1, li, o, l, e, hl, h => by
    unfold tailS at h
    by_cases c1 : signS 35 l = true
    · rw [if_pos c1] at h
      have a1 := afterS_lt c1
      have a2 := restW_le (afterS 35 l)
      by_cases c2 : 0 ≤ li
      · rw [if_pos c2] at h; injection h with h; subst h; decide
      rw [if_neg c2] at h
      cases hq : limitP (nextWS (afterS 35 l)) with
      | none => rw [hq] at h; injection h with h; subst h; decide
      | some n => rw [hq] at h; exact tailS_nz k n o _ e (by omega) h
    rw [if_neg c1] at h
    have a0 := afterS_le 35 l
    by_cases c2 : signS 64 (afterS 35 l) = true
    · rw [if_pos c2] at h
      have a1 := afterS_lt c2
      have a2 := restW_le (afterS 64 (afterS 35 l))
      by_cases c3 : 0 ≤ o
      · rw [if_pos c3] at h; injection h with h; subst h; decide
      rw [if_neg c3] at h
      cases hq : orderP (nextWS (afterS 64 (afterS 35 l))) with
      | none => rw [hq] at h; injection h with h; subst h; decide
      | some n => rw [hq] at h; exact tailS_nz k li n _ e (by omega) h
    rw [if_neg c2] at h
    split at h
    · injection h with h; subst h; decide
    · cases h
theorem parse_nz {s : ByteArray} {e : Int} (h : parseS s = .error e) : e ≠ 0 := by
  unfold parseS at h
  split at h
  · injection h with h; subst h; decide
  · unfold parseR at h
    cases hr : rootS (runesS s) with
    | error e' =>
      rw [hr] at h
      injection h with h
      subst h
      exact orOf_nz (notS_prog 8) (notS_nz 8) _ _ hr
    | ok x =>
      obtain ⟨n, l⟩ := x
      rw [hr] at h
      dsimp only at h
      cases ht : tailOf l with
      | error e' =>
        rw [ht] at h
        injection h with h
        subst h
        exact tailS_nz _ _ _ l _ (Nat.lt_succ_self _) ht
      | ok p => rw [ht] at h; cases h
theorem parse_okC {s : ByteArray} {n : Nd} {li o : Int} (h : parseS s = .ok (n, li, o)) (W : World) (hT : FoldTab W) : Calls Tryd.prog 9 #[.string s] W fun e w' => ∃ k f A1 n1 c1 A2 n2 c2, e = .returned (.tuple #[.agg #[.int .i64 k, .int .u8 f, .slice A1 n1 c1, .slice A2 n2 c2, .int .i64 li, .int .i64 o], .int .i64 0]) ∧ NodeV w' (fun x => x < w'.heap.size) n [.int .i64 k, .int .u8 f, .slice A1 n1 c1, .slice A2 n2 c2] ∧ Keeps (· < W.heap.size) W w' := by
  refine (query_parseQ s W hT).mono ?_
  rintro e w' ⟨k, f, A1, n1, c1, A2, n2, c2, li', o', er, rfl, hQ, hk⟩
  rw [h] at hQ
  obtain ⟨rfl, x0, x1, x2, x3, he, hN⟩ := hQ
  simp only [List.cons.injEq, Value.int.injEq, true_and, and_true] at he
  obtain ⟨rfl, rfl, rfl, rfl, rfl, rfl⟩ := he
  exact ⟨k, f, A1, n1, c1, A2, n2, c2, rfl, hN.keep (Keeps.refl _ _) fun x hx => hx.2, hk⟩
theorem parse_errC {s : ByteArray} {er : Int} (h : parseS s = .error er) (W : World) (hT : FoldTab W) : Calls Tryd.prog 9 #[.string s] W fun e w' => ∃ k f A1 n1 c1 A2 n2 c2 li o, e = .returned (.tuple #[.agg #[.int .i64 k, .int .u8 f, .slice A1 n1 c1, .slice A2 n2 c2, .int .i64 li, .int .i64 o], .int .i64 er]) ∧ er ≠ 0 ∧ Keeps (· < W.heap.size) W w' := by
  refine (query_parseQ s W hT).mono ?_
  rintro e w' ⟨k, f, A1, n1, c1, A2, n2, c2, li', o', er', rfl, hQ, hk⟩
  rw [h] at hQ
  obtain ⟨rfl, _⟩ := hQ
  exact ⟨k, f, A1, n1, c1, A2, n2, c2, li', o', rfl, parse_nz h, hk⟩
theorem showR_cases {n : Nd} {li o : Int} (h : mayQ n li o = true) : showR n li o = ([], 4) ∨ ∃ t, showR n li o = (t, 0) ∧ t.length ≤ 256 := by
  unfold showR
  rw [h, if_neg (by decide)]
  by_cases hl : 256 < (txtN n ++ tailT li o).length
  · rw [if_pos hl]; exact Or.inl rfl
  · rw [if_neg hl]; exact Or.inr ⟨_, rfl, by omega⟩
theorem showR_any (n : Nd) (li o : Int) : (∃ er, showR n li o = ([], er) ∧ er ≠ 0) ∨ ∃ t, showR n li o = (t, 0) ∧ t.length ≤ 256 := by
  cases h : mayQ n li o with
  | false => exact Or.inl ⟨8, by unfold showR; rw [if_pos h], by decide⟩
  | true =>
    rcases showR_cases h with h | h
    · exact Or.inl ⟨4, h, by decide⟩
    · exact Or.inr h

set_option maxRecDepth 100000 in
set_option maxHeartbeats 4000000 in
theorem law17_back (n : Nd) (s : ByteArray) (w : World) (k f : Int) (A1 A2 : Option Addr) (n1 c1 n2 c2 : Nat) (li o : Int) (hT : FoldTab w) (hv : NodeV w (· < w.heap.size) n [.int .i64 k, .int .u8 f, .slice A1 n1 c1, .slice A2 n2 c2]) (ho : NdOk n) (hli : -9223372036854775808 ≤ li ∧ li ≤ 9223372036854775807) :
    Calls Tryd.prog 7 #[.agg #[.int .i64 k, .int .u8 f, .slice A1 n1 c1, .slice A2 n2 c2, .int .i64 li, .int .i64 o], .string s] w fun e w' => e = .returned (.bool true) ∧ Keeps (· < w.heap.size) w w' := by
  have hkw : Keeps (· < w.heap.size) w (w.alloc (.cells #[.int .i64 k, .int .u8 f, .slice A1 n1 c1, .slice A2 n2 c2, .int .i64 li, .int .i64 o] 28)) := (Keeps.refl _ _).alloc (fun b hb => hb) _
  have hB : Blk (w.alloc (.cells #[.int .i64 k, .int .u8 f, .slice A1 n1 c1, .slice A2 n2 c2, .int .i64 li, .int .i64 o] 28)) w.heap.size [.int .i64 k, .int .u8 f, .slice A1 n1 c1, .slice A2 n2 c2, .int .i64 li, .int .i64 o] := Blk.new w _ _
  have hfx : ∀ W, Keeps (· < w.heap.size) w W → Calls Tryd.prog 8 #[] W fun e w' => e = .returned (.bool true) ∧ Keeps (· < w.heap.size) w w' := fun W hk => (law17_fixed W (hT.keep hk)).mono fun e w' h => ⟨h.1, hk.trans (h.2.mono fun b hb => Nat.lt_of_lt_of_le hb hk.size)⟩
  have hfy : ∀ W, Keeps (· < w.heap.size) w W → Calls Tryd.prog 8 #[] W fun e w' => e = .returned (.bool true) ∧ Keeps (· < W.heap.size) W w' := fun W hk => law17_fixed W (hT.keep hk)
  have hft : ∀ W, Keeps (· < w.heap.size) w W → FoldTab W := fun W hk => hT.keep hk
  have hgr : ∀ W, Keeps (· < w.heap.size) w W → Calls Tryd.prog 17 #[.agg #[.int .i64 k, .int .u8 f, .slice A1 n1 c1, .slice A2 n2 c2]] W fun e w' => ∃ gr : Bool, e = .returned (.bool gr) ∧ (gr = false → ∃ m : Nat, Tot n m ∧ m < 3000) ∧ Keeps (· < W.heap.size) W w' := fun W hk => ref17_great n W (· < w.heap.size) k f A1 A2 n1 c1 n2 c2 (fun b h => Nat.lt_of_lt_of_le h hk.size) (hv.keep hk fun _ h => h) ho
  have hs1 : ∀ W m, Keeps (· < w.heap.size) w W → Tot n m → m < 3000 → Calls Tryd.prog 18 #[.agg #[.int .i64 k, .int .u8 f, .slice A1 n1 c1, .slice A2 n2 c2, .int .i64 li, .int .i64 o]] W fun e w' => e = .returned (.tuple #[.string ⟨(showR n li o).1.toArray⟩, .int .i64 (showR n li o).2]) ∧ Keeps (· < W.heap.size) W w' := fun W m hk ht hm => query_Show n W (· < w.heap.size) k f A1 A2 n1 c1 n2 c2 m li o (fun b h => Nat.lt_of_lt_of_le h hk.size) (hT.keep hk) (hv.keep hk fun _ h => h) ho ht (by omega) hli
  have hvk : ∀ W, Keeps (· < w.heap.size) w W → NodeV W (· < w.heap.size) n [.int .i64 k, .int .u8 f, .slice A1 n1 c1, .slice A2 n2 c2] := fun W hk => hv.keep hk fun _ h => h
  have hfo := ho.fields
  clear hv ho hT hli
  have Hkw := hid hkw
  have HB := hid hB
  have Hfx := hid hfx
  have Hfy := hid hfy
  have Hft := hid hft
  have Hgr := hid hgr
  have Hs1 := hid hs1
  have Hvk := hid hvk
  have Hfo := hid hfo
  clear hkw hB hfx hfy hft hgr hs1 hvk hfo
  refine calls_hide fun R' hR' => ?_
  go_enter Tryd.func7, Tryd.ntmps7
  go_wp2_with fail
  refine (Hgr.out _ Hkw.out).mono ?_
  rintro e w2 ⟨gr, rfl, hg, hk⟩
  have hB2 := HB.out.keep hk HB.out.lt
  have hk2 := Hkw.out.trans (hk.mono fun b hb => Nat.lt_of_lt_of_le hb Hkw.out.size)
  clear hk Hgr HB
  cases gr with
  | true =>
    clear hg hB2
    have Hk2 := hid hk2
    clear hk2
    go_wp2_with fail
    refine (Hfx.out _ Hk2.out).mono ?_
    rintro e w3 ⟨rfl, hk3⟩
    have Hk3 := hid hk3
    clear hk3
    go_wp2_with fail
    exact hR'.out _ _ ⟨rfl, Hk3.out⟩
  | false =>
    by_cases hbig : 2000 < s.size
    · have hbI : (2000 : Int) < (s.size : Int) := by omega
      clear hg hB2
      have Hk2 := hid hk2
      clear hk2
      go_wp2_with fail
      refine (Hfx.out _ Hk2.out).mono ?_
      rintro e w3 ⟨rfl, hk3⟩
      have Hk3 := hid hk3
      clear hk3
      go_wp2_with fail
      exact hR'.out _ _ ⟨rfl, Hk3.out⟩
    have hbI : ¬ (2000 : Int) < (s.size : Int) := by omega
    obtain ⟨m, ht, hm⟩ := hg rfl
    have hlt := hB2.lt
    have hB3 := hid hB2
    have z0 := (hB2).cell 0
    have z1 := (hB2).cell 1
    have z2 := (hB2).cell 2
    have z3 := (hB2).cell 3
    have z4 := (hB2).cell 4
    have z5 := (hB2).cell 5
    simp only [List.getElem?_cons_zero, List.getElem?_cons_succ] at z0 z1 z2 z3 z4 z5
    clear hB2 hg
    have Hk2 := hid hk2
    have Ht := hid ht
    have Hm := hid hm
    clear hk2 ht hm
    go_wp2_with fail
    refine (Hs1.out _ m Hk2.out Ht.out Hm.out).mono ?_
    rintro e w3 ⟨rfl, hk⟩
    have hkr := Hk2.out.trans (hk.mono fun b hb => Nat.lt_of_lt_of_le hb Hk2.out.size)
    have hB4 := hB3.out.keep hk hlt
    clear z0 z1 z2 z3 z4 z5 hlt hk hB3 Hk2
    rcases showR_any n li o with ⟨er, hs, hne⟩ | ⟨t, hs, hts⟩
    · rw [hs]
      dsimp only
      have f0 : (er == 0) = false := by simpa using hne
      clear hs hne hB4
      have Hkr := hid hkr
      clear hkr
      cases hps : parseS s with
      | error er =>
        have hT4 := Hft.out _ Hkr.out
        go_wp2_with fail
        refine (parse_errC hps _ hT4).mono ?_
        rintro e w4 ⟨k4, f4, A4, n4, c4, A5, n5, c5, li4, o4, rfl, hne, hk⟩
        have f1 : (er != 0) = true := by simpa using hne
        have hk4 := Hkr.out.trans (hk.mono fun b hb => Nat.lt_of_lt_of_le hb Hkr.out.size)
        have hk5 := hk4.alloc (fun b hb => Nat.lt_of_lt_of_le hb hk4.size) (.cells #[.int .i64 k4, .int .u8 f4, .slice A4 n4 c4, .slice A5 n5 c5, .int .i64 li4, .int .i64 o4] 28)
        clear hk hT4 hne hps
        have Hk4 := hid hk4
        have Hk5 := hid hk5
        clear hk4 hk5
        go_wp2_with fail
        refine (Hfx.out _ Hk5.out).mono ?_
        rintro e w5 ⟨rfl, hk6⟩
        have Hk6 := hid hk6
        clear hk6
        go_wp2_with fail
        exact hR'.out _ _ ⟨rfl, Hk6.out⟩
      | ok x =>
        obtain ⟨n2, li2, o2⟩ := x
        obtain ⟨hmay, hok2, m2, ht2, hm2⟩ := parse_may hps
        have hT4 := Hft.out _ Hkr.out
        go_wp2_with fail
        refine (parse_okC hps _ hT4).mono ?_
        rintro e w4 ⟨k4, f4, A4, n4, c4, A5, n5, c5, rfl, hN, hk⟩
        have hk4 := Hkr.out.trans (hk.mono fun b hb => Nat.lt_of_lt_of_le hb Hkr.out.size)
        have hka : Keeps (· < w4.heap.size) w4 (w4.alloc (.cells #[.int .i64 k4, .int .u8 f4, .slice A4 n4 c4, .slice A5 n5 c5, .int .i64 li2, .int .i64 o2] 28)) := (Keeps.refl _ _).alloc (fun b hb => hb) _
        have hk5 := hk4.trans (hka.mono fun b hb => Nat.lt_of_lt_of_le hb hk4.size)
        have hB4 := Blk.new w4 [.int .i64 k4, .int .u8 f4, .slice A4 n4 c4, .slice A5 n5 c5, .int .i64 li2, .int .i64 o2] 28
        have hNk : ∀ W, Keeps (· < w4.heap.size + 1) (w4.alloc (.cells #[.int .i64 k4, .int .u8 f4, .slice A4 n4 c4, .slice A5 n5 c5, .int .i64 li2, .int .i64 o2] 28)) W → NodeV W (· < w4.heap.size) n2 [.int .i64 k4, .int .u8 f4, .slice A4 n4 c4, .slice A5 n5 c5] := fun W hW => hN.keep (hka.trans (hW.mono fun b hb => Nat.lt_succ_of_lt hb)) fun _ h => h
        have hBk : ∀ W, Keeps (· < w4.heap.size + 1) (w4.alloc (.cells #[.int .i64 k4, .int .u8 f4, .slice A4 n4 c4, .slice A5 n5 c5, .int .i64 li2, .int .i64 o2] 28)) W → Blk W w4.heap.size [.int .i64 k4, .int .u8 f4, .slice A4 n4 c4, .slice A5 n5 c5, .int .i64 li2, .int .i64 o2] := fun W hW => hB4.keep hW (Nat.lt_succ_self _)
        have hli : -9223372036854775808 ≤ li2 ∧ li2 ≤ 9223372036854775807 := by have := mayQ_ok hmay; omega
        have hsz4 : (w4.alloc (.cells #[.int .i64 k4, .int .u8 f4, .slice A4 n4 c4, .slice A5 n5 c5, .int .i64 li2, .int .i64 o2] 28)).heap.size = w4.heap.size + 1 := World.size_alloc ..
        have hcall := query_Show n2 (w4.alloc (.cells #[.int .i64 k4, .int .u8 f4, .slice A4 n4 c4, .slice A5 n5 c5, .int .i64 li2, .int .i64 o2] 28)) (· < w4.heap.size) k4 f4 A4 A5 n4 c4 n5 c5 m2 li2 o2 (fun b hb => Nat.lt_of_lt_of_le hb hka.size) (Hft.out _ hk5) (hNk _ (Keeps.refl _ _)) hok2 ht2 (by omega) hli
        have hmb : m2 ≤ 3000 := by omega
        have hfl := hok2.fields
        have hwk : ∀ W, Keeps (· < w4.heap.size + 1) (w4.alloc (.cells #[.int .i64 k4, .int .u8 f4, .slice A4 n4 c4, .slice A5 n5 c5, .int .i64 li2, .int .i64 o2] 28)) W → Keeps (· < w.heap.size) w W := fun W hW => hk5.trans (hW.mono fun b hb => by have := hk4.size; omega)
        have hlow : w4.heap.size + 1 ≤ (w4.alloc (.cells #[.int .i64 k4, .int .u8 f4, .slice A4 n4 c4, .slice A5 n5 c5, .int .i64 li2, .int .i64 o2] 28)).heap.size := Nat.le_of_eq hsz4.symm
        clear hN hk hB4 hka hT4 hps hli hm2 hk4 hk5
        have HNk := hid hNk
        have HBk := hid hBk
        have Hcall := hid hcall
        have Hmay := hid hmay
        have Hok2 := hid hok2
        have Ht2 := hid ht2
        have Hmb := hid hmb
        have Hfl := hid hfl
        have Hwk := hid hwk
        have Hsz4 := hid hsz4
        have Hlow := hid hlow
        clear hNk hBk hcall hmay hok2 ht2 hmb hfl hwk hsz4 hlow
        go_wp2_with fail
        refine Hcall.out.mono ?_
        rintro e w5 ⟨rfl, hk⟩
        have hk6 : Keeps (· < w4.heap.size + 1) (w4.alloc (.cells #[.int .i64 k4, .int .u8 f4, .slice A4 n4 c4, .slice A5 n5 c5, .int .i64 li2, .int .i64 o2] 28)) w5 := hk.mono fun b hb => by rw [Hsz4.out]; exact hb
        clear hk Hcall
        rcases showR_cases Hmay.out with hs | ⟨t, hs, hts⟩
        · rw [hs]
          clear hs
          have Hk6 := hid hk6
          clear hk6
          go_wp2_with fail
          refine (Hfy.out _ (Hwk.out _ Hk6.out)).mono ?_
          rintro e w6 ⟨rfl, hk⟩
          have hk7 := Hk6.out.trans (hk.mono fun b hb => Nat.lt_of_lt_of_le (Nat.lt_of_lt_of_le hb Hlow.out) Hk6.out.size)
          have hb := HBk.out _ hk7
          have hMay := ref17_May n2 w6 (· < w4.heap.size) k4 f4 A4 A5 n4 c4 n5 c5 m2 li2 o2 (fun b hb' => Nat.lt_trans hb' hb.lt) (HNk.out _ hk7) Hok2.out Ht2.out Hmb.out
          rw [Hmay.out] at hMay
          have y0 := (hb).cell 0
          have y1 := (hb).cell 1
          have y2 := (hb).cell 2
          have y3 := (hb).cell 3
          have y4 := (hb).cell 4
          have y5 := (hb).cell 5
          simp only [List.getElem?_cons_zero, List.getElem?_cons_succ] at y0 y1 y2 y3 y4 y5
          clear hb hk
          have Hk7 := hid hk7
          have HMy := hid hMay
          clear hk7 hMay
          go_wp2_with fail
          refine HMy.out.mono ?_
          rintro e w7 ⟨rfl, hk⟩
          have hk8 := (Hwk.out _ Hk7.out).trans (hk.mono fun b hb => Nat.lt_of_lt_of_le hb (Hwk.out _ Hk7.out).size)
          clear hk y0 y1 y2 y3 y4 y5
          have Hk8 := hid hk8
          clear hk8
          go_wp2_with fail
          exact hR'.out _ _ ⟨rfl, Hk8.out⟩
        · rw [hs]
          dsimp only
          have hpt := parse_shown Hfl.out hs
          have hT6 := Hft.out _ (Hwk.out _ hk6)
          have htb : (⟨t.toArray⟩ : ByteArray).size ≤ 256 := hts
          clear hs hts
          generalize (⟨t.toArray⟩ : ByteArray) = tb at *
          have Hk6 := hid hk6
          clear hk6
          go_wp2_with fail
          refine (parse_okC hpt _ hT6).mono ?_
          rintro e w6 ⟨k7, f7, A7, n7, c7, A8, n8, c8, rfl, hN, hk⟩
          have hk7 := Hk6.out.trans (hk.mono fun b hb => Nat.lt_of_lt_of_le (Nat.lt_of_lt_of_le hb Hlow.out) Hk6.out.size)
          have hka : Keeps (· < w6.heap.size) w6 (w6.alloc (.cells #[.int .i64 k7, .int .u8 f7, .slice A7 n7 c7, .slice A8 n8 c8, .int .i64 li2, .int .i64 o2] 28)) := (Keeps.refl _ _).alloc (fun b hb => hb) _
          have hB7 := Blk.new w6 [.int .i64 k7, .int .u8 f7, .slice A7 n7 c7, .slice A8 n8 c8, .int .i64 li2, .int .i64 o2] 28
          have hk8 := hk7.trans (hka.mono fun b hb => Nat.lt_of_lt_of_le (Nat.lt_of_lt_of_le hb Hlow.out) hk7.size)
          have hN7 := hN.keep hka (K' := fun x => x < w6.heap.size) fun _ h => h
          clear hN hk hka hT6 hpt hk7
          have hl7 := hB7.lt
          have Hk8 := hid hk8
          have HB7 := hid hB7
          have HN7 := hid hN7
          have Hl7 := hid hl7
          clear hk8 hB7 hN7 hl7
          go_wp2_with fail
          refine (Hfy.out _ (Hwk.out _ Hk8.out)).mono ?_
          rintro e w7 ⟨rfl, hk⟩
          have hk9 := Hk8.out.trans (hk.mono fun b hb => Nat.lt_of_lt_of_le (Nat.lt_of_lt_of_le hb Hlow.out) Hk8.out.size)
          have hb := HBk.out _ hk9
          have hc := HB7.out.keep hk Hl7.out
          have hSame := ref17_sameQ n2 li2 o2 w7 (fun x => x < w6.heap.size) (· < w4.heap.size) _ _ _ _ _ _ _ _ (fun b hb' => by have h1 := Hl7.out; have := hk.size; omega) (fun b hb' => Nat.lt_trans hb' hb.lt) (HN7.out.keep (hk.mono fun b hb => Nat.lt_trans hb Hl7.out) fun _ h => h) (HNk.out _ hk9)
          have y0 := (hb).cell 0
          have y1 := (hb).cell 1
          have y2 := (hb).cell 2
          have y3 := (hb).cell 3
          have y4 := (hb).cell 4
          have y5 := (hb).cell 5
          simp only [List.getElem?_cons_zero, List.getElem?_cons_succ] at y0 y1 y2 y3 y4 y5
          have z0 := (hc).cell 0
          have z1 := (hc).cell 1
          have z2 := (hc).cell 2
          have z3 := (hc).cell 3
          have z4 := (hc).cell 4
          have z5 := (hc).cell 5
          simp only [List.getElem?_cons_zero, List.getElem?_cons_succ] at z0 z1 z2 z3 z4 z5
          clear hb hc hk
          have Hk9 := hid hk9
          have HSm := hid hSame
          clear hk9 hSame
          go_wp2_with fail
          refine HSm.out.mono ?_
          rintro e w8 ⟨rfl, hk⟩
          have hk10 := (Hwk.out _ Hk9.out).trans (hk.mono fun b hb => Nat.lt_of_lt_of_le hb (Hwk.out _ Hk9.out).size)
          clear hk y0 y1 y2 y3 y4 y5 z0 z1 z2 z3 z4 z5
          have Hk10 := hid hk10
          clear hk10
          go_wp2_with fail
          exact hR'.out _ _ ⟨rfl, Hk10.out⟩
    · rw [hs]
      dsimp only
      have hpt := parse_shown Hfo.out hs
      have hT6 := Hft.out _ hkr
      have htb : (⟨t.toArray⟩ : ByteArray).size ≤ 256 := hts
      clear hs hts
      generalize (⟨t.toArray⟩ : ByteArray) = tb at *
      have Hkr := hid hkr
      clear hkr
      go_wp2_with fail
      refine (parse_okC hpt _ hT6).mono ?_
      rintro e w6 ⟨k7, f7, A7, n7, c7, A8, n8, c8, rfl, hN, hk⟩
      have hka : Keeps (· < w6.heap.size) w6 (w6.alloc (.cells #[.int .i64 k7, .int .u8 f7, .slice A7 n7 c7, .slice A8 n8 c8, .int .i64 li, .int .i64 o] 28)) := (Keeps.refl _ _).alloc (fun b hb => hb) _
      have hB7 := Blk.new w6 [.int .i64 k7, .int .u8 f7, .slice A7 n7 c7, .slice A8 n8 c8, .int .i64 li, .int .i64 o] 28
      have hk7 := Hkr.out.trans (hk.mono fun b hb => Nat.lt_of_lt_of_le hb Hkr.out.size)
      have hk8 := hk7.trans (hka.mono fun b hb => Nat.lt_of_lt_of_le hb hk7.size)
      have hN7 := hN.keep hka (K' := fun x => x < w6.heap.size) fun _ h => h
      have hb := (hB4.keep hk hB4.lt).keep hka (hB4.keep hk hB4.lt).lt
      have hwb := (hB4.keep hk hB4.lt).lt
      have hSame := ref17_sameQ n li o (w6.alloc (.cells #[.int .i64 k7, .int .u8 f7, .slice A7 n7 c7, .slice A8 n8 c8, .int .i64 li, .int .i64 o] 28)) (fun x => x < w6.heap.size) (· < w.heap.size) _ _ _ _ _ _ _ _ (fun b hb' => Nat.lt_of_lt_of_le hb' hka.size) (fun b hb' => Nat.lt_of_lt_of_le hb' hk8.size) hN7 (Hvk.out _ hk8)
      have y0 := (hb).cell 0
      have y1 := (hb).cell 1
      have y2 := (hb).cell 2
      have y3 := (hb).cell 3
      have y4 := (hb).cell 4
      have y5 := (hb).cell 5
      simp only [List.getElem?_cons_zero, List.getElem?_cons_succ] at y0 y1 y2 y3 y4 y5
      clear hb hN hk hka hT6 hpt hk7 hB4 hN7 hB7 Hkr
      have Hk8 := hid hk8
      have HSm := hid hSame
      clear hk8 hSame
      go_wp2_with fail
      refine HSm.out.mono ?_
      rintro e w8 ⟨rfl, hk⟩
      have hkr := Hk8.out.trans (hk.mono fun b hb => Nat.lt_of_lt_of_le hb Hk8.out.size)
      clear hk y0 y1 y2 y3 y4 y5 HSm Hk8 hwb
      have Hkr := hid hkr
      clear hkr
      cases hps : parseS s with
      | error er =>
        have hT4 := Hft.out _ Hkr.out
        go_wp2_with fail
        refine (parse_errC hps _ hT4).mono ?_
        rintro e w4 ⟨k4, f4, A4, n4, c4, A5, n5, c5, li4, o4, rfl, hne, hk⟩
        have f1 : (er != 0) = true := by simpa using hne
        have hk4 := Hkr.out.trans (hk.mono fun b hb => Nat.lt_of_lt_of_le hb Hkr.out.size)
        have hk5 := hk4.alloc (fun b hb => Nat.lt_of_lt_of_le hb hk4.size) (.cells #[.int .i64 k4, .int .u8 f4, .slice A4 n4 c4, .slice A5 n5 c5, .int .i64 li4, .int .i64 o4] 28)
        clear hk hT4 hne hps
        have Hk4 := hid hk4
        have Hk5 := hid hk5
        clear hk4 hk5
        go_wp2_with fail
        refine (Hfx.out _ Hk5.out).mono ?_
        rintro e w5 ⟨rfl, hk6⟩
        have Hk6 := hid hk6
        clear hk6
        go_wp2_with fail
        exact hR'.out _ _ ⟨rfl, Hk6.out⟩
      | ok x =>
        obtain ⟨n2, li2, o2⟩ := x
        obtain ⟨hmay, hok2, m2, ht2, hm2⟩ := parse_may hps
        have hT4 := Hft.out _ Hkr.out
        go_wp2_with fail
        refine (parse_okC hps _ hT4).mono ?_
        rintro e w4 ⟨k4, f4, A4, n4, c4, A5, n5, c5, rfl, hN, hk⟩
        have hk4 := Hkr.out.trans (hk.mono fun b hb => Nat.lt_of_lt_of_le hb Hkr.out.size)
        have hka : Keeps (· < w4.heap.size) w4 (w4.alloc (.cells #[.int .i64 k4, .int .u8 f4, .slice A4 n4 c4, .slice A5 n5 c5, .int .i64 li2, .int .i64 o2] 28)) := (Keeps.refl _ _).alloc (fun b hb => hb) _
        have hk5 := hk4.trans (hka.mono fun b hb => Nat.lt_of_lt_of_le hb hk4.size)
        have hB4 := Blk.new w4 [.int .i64 k4, .int .u8 f4, .slice A4 n4 c4, .slice A5 n5 c5, .int .i64 li2, .int .i64 o2] 28
        have hNk : ∀ W, Keeps (· < w4.heap.size + 1) (w4.alloc (.cells #[.int .i64 k4, .int .u8 f4, .slice A4 n4 c4, .slice A5 n5 c5, .int .i64 li2, .int .i64 o2] 28)) W → NodeV W (· < w4.heap.size) n2 [.int .i64 k4, .int .u8 f4, .slice A4 n4 c4, .slice A5 n5 c5] := fun W hW => hN.keep (hka.trans (hW.mono fun b hb => Nat.lt_succ_of_lt hb)) fun _ h => h
        have hBk : ∀ W, Keeps (· < w4.heap.size + 1) (w4.alloc (.cells #[.int .i64 k4, .int .u8 f4, .slice A4 n4 c4, .slice A5 n5 c5, .int .i64 li2, .int .i64 o2] 28)) W → Blk W w4.heap.size [.int .i64 k4, .int .u8 f4, .slice A4 n4 c4, .slice A5 n5 c5, .int .i64 li2, .int .i64 o2] := fun W hW => hB4.keep hW (Nat.lt_succ_self _)
        have hli : -9223372036854775808 ≤ li2 ∧ li2 ≤ 9223372036854775807 := by have := mayQ_ok hmay; omega
        have hsz4 : (w4.alloc (.cells #[.int .i64 k4, .int .u8 f4, .slice A4 n4 c4, .slice A5 n5 c5, .int .i64 li2, .int .i64 o2] 28)).heap.size = w4.heap.size + 1 := World.size_alloc ..
        have hcall := query_Show n2 (w4.alloc (.cells #[.int .i64 k4, .int .u8 f4, .slice A4 n4 c4, .slice A5 n5 c5, .int .i64 li2, .int .i64 o2] 28)) (· < w4.heap.size) k4 f4 A4 A5 n4 c4 n5 c5 m2 li2 o2 (fun b hb => Nat.lt_of_lt_of_le hb hka.size) (Hft.out _ hk5) (hNk _ (Keeps.refl _ _)) hok2 ht2 (by omega) hli
        have hmb : m2 ≤ 3000 := by omega
        have hfl := hok2.fields
        have hwk : ∀ W, Keeps (· < w4.heap.size + 1) (w4.alloc (.cells #[.int .i64 k4, .int .u8 f4, .slice A4 n4 c4, .slice A5 n5 c5, .int .i64 li2, .int .i64 o2] 28)) W → Keeps (· < w.heap.size) w W := fun W hW => hk5.trans (hW.mono fun b hb => by have := hk4.size; omega)
        have hlow : w4.heap.size + 1 ≤ (w4.alloc (.cells #[.int .i64 k4, .int .u8 f4, .slice A4 n4 c4, .slice A5 n5 c5, .int .i64 li2, .int .i64 o2] 28)).heap.size := Nat.le_of_eq hsz4.symm
        clear hN hk hB4 hka hT4 hps hli hm2 hk4 hk5
        have HNk := hid hNk
        have HBk := hid hBk
        have Hcall := hid hcall
        have Hmay := hid hmay
        have Hok2 := hid hok2
        have Ht2 := hid ht2
        have Hmb := hid hmb
        have Hfl := hid hfl
        have Hwk := hid hwk
        have Hsz4 := hid hsz4
        have Hlow := hid hlow
        clear hNk hBk hcall hmay hok2 ht2 hmb hfl hwk hsz4 hlow
        go_wp2_with fail
        refine Hcall.out.mono ?_
        rintro e w5 ⟨rfl, hk⟩
        have hk6 : Keeps (· < w4.heap.size + 1) (w4.alloc (.cells #[.int .i64 k4, .int .u8 f4, .slice A4 n4 c4, .slice A5 n5 c5, .int .i64 li2, .int .i64 o2] 28)) w5 := hk.mono fun b hb => by rw [Hsz4.out]; exact hb
        clear hk Hcall
        rcases showR_cases Hmay.out with hs | ⟨t, hs, hts⟩
        · rw [hs]
          clear hs
          have Hk6 := hid hk6
          clear hk6
          go_wp2_with fail
          refine (Hfy.out _ (Hwk.out _ Hk6.out)).mono ?_
          rintro e w6 ⟨rfl, hk⟩
          have hk7 := Hk6.out.trans (hk.mono fun b hb => Nat.lt_of_lt_of_le (Nat.lt_of_lt_of_le hb Hlow.out) Hk6.out.size)
          have hb := HBk.out _ hk7
          have hMay := ref17_May n2 w6 (· < w4.heap.size) k4 f4 A4 A5 n4 c4 n5 c5 m2 li2 o2 (fun b hb' => Nat.lt_trans hb' hb.lt) (HNk.out _ hk7) Hok2.out Ht2.out Hmb.out
          rw [Hmay.out] at hMay
          have y0 := (hb).cell 0
          have y1 := (hb).cell 1
          have y2 := (hb).cell 2
          have y3 := (hb).cell 3
          have y4 := (hb).cell 4
          have y5 := (hb).cell 5
          simp only [List.getElem?_cons_zero, List.getElem?_cons_succ] at y0 y1 y2 y3 y4 y5
          clear hb hk
          have Hk7 := hid hk7
          have HMy := hid hMay
          clear hk7 hMay
          go_wp2_with fail
          refine HMy.out.mono ?_
          rintro e w7 ⟨rfl, hk⟩
          have hk8 := (Hwk.out _ Hk7.out).trans (hk.mono fun b hb => Nat.lt_of_lt_of_le hb (Hwk.out _ Hk7.out).size)
          clear hk y0 y1 y2 y3 y4 y5
          have Hk8 := hid hk8
          clear hk8
          go_wp2_with fail
          exact hR'.out _ _ ⟨rfl, Hk8.out⟩
        · rw [hs]
          dsimp only
          have hpt := parse_shown Hfl.out hs
          have hT6 := Hft.out _ (Hwk.out _ hk6)
          have htb : (⟨t.toArray⟩ : ByteArray).size ≤ 256 := hts
          clear hs hts
          generalize (⟨t.toArray⟩ : ByteArray) = tb at *
          have Hk6 := hid hk6
          clear hk6
          go_wp2_with fail
          refine (parse_okC hpt _ hT6).mono ?_
          rintro e w6 ⟨k7, f7, A7, n7, c7, A8, n8, c8, rfl, hN, hk⟩
          have hk7 := Hk6.out.trans (hk.mono fun b hb => Nat.lt_of_lt_of_le (Nat.lt_of_lt_of_le hb Hlow.out) Hk6.out.size)
          have hka : Keeps (· < w6.heap.size) w6 (w6.alloc (.cells #[.int .i64 k7, .int .u8 f7, .slice A7 n7 c7, .slice A8 n8 c8, .int .i64 li2, .int .i64 o2] 28)) := (Keeps.refl _ _).alloc (fun b hb => hb) _
          have hB7 := Blk.new w6 [.int .i64 k7, .int .u8 f7, .slice A7 n7 c7, .slice A8 n8 c8, .int .i64 li2, .int .i64 o2] 28
          have hk8 := hk7.trans (hka.mono fun b hb => Nat.lt_of_lt_of_le (Nat.lt_of_lt_of_le hb Hlow.out) hk7.size)
          have hN7 := hN.keep hka (K' := fun x => x < w6.heap.size) fun _ h => h
          clear hN hk hka hT6 hpt hk7
          have hl7 := hB7.lt
          have Hk8 := hid hk8
          have HB7 := hid hB7
          have HN7 := hid hN7
          have Hl7 := hid hl7
          clear hk8 hB7 hN7 hl7
          go_wp2_with fail
          refine (Hfy.out _ (Hwk.out _ Hk8.out)).mono ?_
          rintro e w7 ⟨rfl, hk⟩
          have hk9 := Hk8.out.trans (hk.mono fun b hb => Nat.lt_of_lt_of_le (Nat.lt_of_lt_of_le hb Hlow.out) Hk8.out.size)
          have hb := HBk.out _ hk9
          have hc := HB7.out.keep hk Hl7.out
          have hSame := ref17_sameQ n2 li2 o2 w7 (fun x => x < w6.heap.size) (· < w4.heap.size) _ _ _ _ _ _ _ _ (fun b hb' => by have h1 := Hl7.out; have := hk.size; omega) (fun b hb' => Nat.lt_trans hb' hb.lt) (HN7.out.keep (hk.mono fun b hb => Nat.lt_trans hb Hl7.out) fun _ h => h) (HNk.out _ hk9)
          have y0 := (hb).cell 0
          have y1 := (hb).cell 1
          have y2 := (hb).cell 2
          have y3 := (hb).cell 3
          have y4 := (hb).cell 4
          have y5 := (hb).cell 5
          simp only [List.getElem?_cons_zero, List.getElem?_cons_succ] at y0 y1 y2 y3 y4 y5
          have z0 := (hc).cell 0
          have z1 := (hc).cell 1
          have z2 := (hc).cell 2
          have z3 := (hc).cell 3
          have z4 := (hc).cell 4
          have z5 := (hc).cell 5
          simp only [List.getElem?_cons_zero, List.getElem?_cons_succ] at z0 z1 z2 z3 z4 z5
          clear hb hc hk
          have Hk9 := hid hk9
          have HSm := hid hSame
          clear hk9 hSame
          go_wp2_with fail
          refine HSm.out.mono ?_
          rintro e w8 ⟨rfl, hk⟩
          have hk10 := (Hwk.out _ Hk9.out).trans (hk.mono fun b hb => Nat.lt_of_lt_of_le hb (Hwk.out _ Hk9.out).size)
          clear hk y0 y1 y2 y3 y4 y5 z0 z1 z2 z3 z4 z5
          have Hk10 := hid hk10
          clear hk10
          go_wp2_with fail
          exact hR'.out _ _ ⟨rfl, Hk10.out⟩
end Go.Proofs.YtbepgbkbpkaodaaDoor
