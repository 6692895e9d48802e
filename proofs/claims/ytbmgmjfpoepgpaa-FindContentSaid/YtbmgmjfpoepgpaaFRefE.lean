/- Contract of a reference: a list's cells. -/
import Derived.Test.YtbmgmjfpoepgpaaFPlanB
import Derived.Maps.AppendAt
import Derived.Deep.DeepMust
namespace Go.Proofs.Ytbmgmjfpoepgpaa
open Go.RowKit

/-- two own rows apart -/
structure Two (B : Nat) (w0 w : World) (E1 : TypeId) (s1 : Nat) (v1 : Value) (n1 : Nat) (xs1 : List Value) (E2 : TypeId) (s2 : Nat) (v2 : Value) (n2 : Nat) (xs2 : List Value) : Prop where
  o1 : w.ownsRow B E1 s1 v1 n1 xs1
  o2 : w.ownsRow B E2 s2 v2 n2 xs2
  ne : ∀ y, v1.ownBlock = some y → v2.ownBlock ≠ some y
  keeps : Keeps (· < B) w0 w
  le : B ≤ w.heap.size
theorem ownB_keepS {w w' : World} {B : Nat} {E : TypeId} {n sz : Nat} {v : Value} {xs : List Value} (h : w.ownsRow B E sz v n xs) (k : Keeps (· < w.heap.size) w w') : w'.ownsRow B E sz v n xs := ownB_keep h k fun b _ hb _ => hb
theorem own_grown {w w' : World} {B : Nat} {E : TypeId} {n sz : Nat} {v : Value} {xs : List Value} {o : Option Nat} (h : w.ownsRow B E sz v n xs) (hg : w.grownBy w' o) (hne : ∀ y, v.ownBlock = some y → o ≠ some y) : w'.ownsRow B E sz v n xs :=
  ownB_keep (K := fun b => b < w.heap.size ∧ some b ≠ o) h ⟨hg.os, hg.tape, hg.output, hg.size, fun b hb => hg.block b hb.1 hb.2⟩ fun b _ hb ho => ⟨hb, fun e => hne b ho e.symm⟩
theorem own_lit (w : World) (B : Nat) (E T : TypeId) (sz n : Nat) (xs : List Value) (hT : T = E) (hn : xs.length = n * sz) (hm : n ≤ maxLen) (hB : B ≤ w.heap.size) : (w.alloc (.cells xs.toArray T)).ownsRow B E sz (.slice (some ⟨w.heap.size, 0, none⟩) n n) n xs :=
  ⟨hn, Or.inr ⟨w.heap.size, n, xs.toArray, rfl, hB, by rw [heap_alloc_new, hT], Nat.le_refl _, hm, by simpa using hn, by simp [List.take_of_length_le (show xs.length ≤ n * sz by omega)]⟩⟩
section
variable {B : Nat} {w0 w w2 w' : World} {E1 E2 : TypeId} {s1 s2 n1 n2 n' : Nat} {v1 v2 v' : Value} {xs1 xs2 ys : List Value}
theorem Two.swap (h : Two B w0 w E1 s1 v1 n1 xs1 E2 s2 v2 n2 xs2) : Two B w0 w E2 s2 v2 n2 xs2 E1 s1 v1 n1 xs1 := ⟨h.o2, h.o1, fun y h1 h2 => h.ne y h2 h1, h.keeps, h.le⟩
theorem Two.calls (h : Two B w0 w E1 s1 v1 n1 xs1 E2 s2 v2 n2 xs2) (k : Keeps (· < w.heap.size) w w2) : Two B w0 w2 E1 s1 v1 n1 xs1 E2 s2 v2 n2 xs2 :=
  ⟨ownB_keepS h.o1 k, ownB_keepS h.o2 k, h.ne, h.keeps.trans (k.mono fun b hb => by have := h.le; omega), Nat.le_trans h.le k.size⟩
theorem Two.alloc (h : Two B w0 w E1 s1 v1 n1 xs1 E2 s2 v2 n2 xs2) (c : Obj) : Two B w0 (w.alloc c) E1 s1 v1 n1 xs1 E2 s2 v2 n2 xs2 := h.calls ((Keeps.refl _ _).alloc (fun b hb => hb) _)
/-- the first one grew -/
theorem Two.app (h : Two B w0 w2 E1 s1 v1 n1 xs1 E2 s2 v2 n2 xs2) (hown : w'.ownsRow B E1 s1 v' n' ys) (hg : w2.grownBy w' v1.ownBlock) (hf : v'.ownBlock = v1.ownBlock ∨ v'.ownBlock = some w2.heap.size) : Two B w0 w' E1 s1 v' n' ys E2 s2 v2 n2 xs2 := by
  refine ⟨hown, own_grown h.o2 hg (fun y h1 h2 => h.ne y h2 h1), ?_, keeps_grown h.keeps h.le h.o1 hg, Nat.le_trans h.le hg.size⟩
  intro y hy
  rcases hf with e | e
  · exact h.ne y (by rw [← e]; exact hy)
  · intro h2
    rw [e] at hy; injection hy with hy
    have := (ownB_lt h.o2 h2).2
    omega
end

theorem one1 (k : IntKind) (x : Int) : ∀ u ∈ [Value.int k x], u.oneCell' = true := by intro u hu; rcases List.mem_singleton.1 hu with rfl; rfl
theorem oneM (k : IntKind) (xs : List Int) : ∀ u ∈ xs.map (Value.int k), u.oneCell' = true := by intro u hu; obtain ⟨x, _, rfl⟩ := List.mem_map.1 hu; rfl
theorem one2 (k : IntKind) (x y : Int) : ∀ u ∈ [Value.int k x, Value.int k y], u.oneCell' = true := oneM k [x, y]
theorem one4 (k : IntKind) (x y z t : Int) : ∀ u ∈ [Value.int k x, Value.int k y, Value.int k z, Value.int k t], u.oneCell' = true := oneM k [x, y, z, t]
theorem EntV.up {w : World} {K L : Nat → Prop} {v : Value} {es : List EntM} (h : EntV w K v es) (hL : ∀ b, K b → L b) : EntV w L v es := by
  obtain ⟨cells, h1, h2⟩ := h
  exact ⟨cells, h1.mono hL, EntAt.mono hL _ _ h2⟩
def skl (es : List EntM) (i : Nat) : List Int := (List.range ((i + 3) / 4)).map (skipV es)
theorem skl_len (es : List EntM) (i : Nat) : (skl es i).length = (i + 3) / 4 := by simp [skl]
theorem skl_next {es : List EntM} {i : Nat} (h : i % 4 = 0) : skl es (i + 1) = skl es i ++ [skipV es (i / 4)] := by
  unfold skl
  rw [show (i + 1 + 3) / 4 = (i + 3) / 4 + 1 by omega, List.range_succ, List.map_append, show i / 4 = (i + 3) / 4 by omega]; rfl
theorem skl_same {es : List EntM} {i : Nat} (h : ¬ i % 4 = 0) : skl es (i + 1) = skl es i := by
  unfold skl
  rw [show (i + 1 + 3) / 4 = (i + 3) / 4 by omega]
theorem encB_next {es : List EntM} {i : Nat} {e : EntM} (h : es[i]? = some e) : encB es (i + 1) 0 = encB es i 0 ++ entryB es i e := by
  rw [encB_split es i 1 0, Nat.zero_add]
  unfold encB
  rw [h]
  simp [encB]

set_option maxRecDepth 100000 in
set_option maxHeartbeats 1000000 in
theorem ref7_cells2 (t : ByteArray) (ht : t.size ≤ 1099511627776) (w : World) : Calls Try.prog 39 #[.string t] w fun e w' => ∃ g c, e = .returned (.slice (some ⟨g, 0, none⟩) (packC (bsL t)).length c) ∧ NewRow w w' 55 (Value.int .u32) (.slice (some ⟨g, 0, none⟩) (packC (bsL t)).length c) (packC (bsL t)) := by
  by_cases h0 : t.size = 0
  · refine calls_hide fun R' hR' => ?_
    have hl : packC (bsL t) = [] := by
      apply List.eq_nil_of_length_eq_zero
      rw [packC_len, bsL_len, h0]
    have h0I : ¬ (0 : Int) < (t.size : Int) := by omega
    go_enter Try.func39, Try.ntmps39
    go_wp2_with fail
    go_loopw [3, 4] (fun ov iv wr => ov = .slice (some ⟨w.heap.size, 0, none⟩) 0 0 ∧ iv = .int .i64 0 ∧ wr = w.alloc (.cells #[] 55)) (fun _ _ _ => 0)
    case atStart => exact ⟨rfl, rfl, rfl⟩
    case round =>
      obtain ⟨rfl, rfl, rfl⟩ := hrel
      go_wp2_with fail
      refine hR'.out _ _ ⟨w.heap.size, 0, by rw [hl]; rfl, ?_⟩
      rw [hl]
      exact NewRow.empty w _ _ _ rfl
  · refine (ref7_cells t ht w).mono ?_
    rintro e w' ⟨v, rfl, hN⟩
    obtain ⟨g, c, rfl⟩ := ownB_pos hN.1 (by rw [packC_len, bsL_len]; omega)
    exact ⟨g, c, rfl, hN⟩

set_option maxRecDepth 100000 in
set_option maxHeartbeats 4000000 in
theorem ref13_encode (A : Option Addr) (cap : Nat) (es : List EntM) (hM : MayE es) (hne : 0 < es.length) (w : World) (hv : EntV w (· < w.heap.size) (.slice A es.length cap) es) :
    Calls Try.prog 51 #[.slice A es.length cap] w fun e' w' => ∃ g c, e' = .returned (.tuple #[.slice (some ⟨g, 0, none⟩) (encL es).length c, .int .i64 0]) ∧ NewRow w w' 55 (Value.int .u32) (.slice (some ⟨g, 0, none⟩) (encL es).length c) (encL es) := by
  obtain ⟨A0, cap0, he, hc1, hc2⟩ := hv.form
  injection he with e1 _ e3
  subst e1 e3
  unfold maxLen at hc2
  have h64 := hM.1
  have HM := hid hM
  have HV := hid hv
  have HMB := hid (mayB_true hM)
  clear hM hv
  refine calls_hide fun R' hR' => ?_
  go_enter Try.func51, Try.ntmps51
  go_wp2_with fail
  refine (ref13_may A cap es w HV.out).mono ?_
  rintro e' w1 ⟨rfl, hk1⟩
  rw [HMB.out]
  have hs1 := hk1.size
  have Hk1 := hid hk1
  clear hk1
  go_wp2_with fail
  have hT0 : Two w.heap.size w ((w1.alloc (.cells #[] 55)).alloc (.cells #[] 5)) 55 1 (.slice (some ⟨w1.heap.size, 0, none⟩) 0 0) 0 [] 5 1 (.slice (some ⟨w1.heap.size + 1, 0, none⟩) 0 0) 0 [] := by
    have k1 : Keeps (· < w1.heap.size) w1 (w1.alloc (.cells #[] 55)) := (Keeps.refl _ _).alloc (fun b hb => hb) _
    have k2 : Keeps (· < (w1.alloc (.cells #[] 55)).heap.size) (w1.alloc (.cells #[] 55)) ((w1.alloc (.cells #[] 55)).alloc (.cells #[] 5)) := (Keeps.refl _ _).alloc (fun b hb => hb) _
    refine ⟨ownB_keepS (own_lit w1 _ _ _ 1 0 [] rfl rfl (Nat.zero_le _) hs1) k2, ?_, ?_, Hk1.out.trans ((k1.mono fun b hb => by omega).trans (k2.mono fun b hb => by simp; omega)), by simp; omega⟩
    · have := own_lit (w1.alloc (.cells #[] 55)) w.heap.size 5 5 1 0 [] rfl rfl (Nat.zero_le _) (by simp; omega)
      rw [World.size_alloc] at this
      exact this
    · intro y h1 h2
      simp [Value.ownBlock] at h1 h2
      omega
  generalize w1.heap.size = g1 at *
  generalize g1 + 1 = g2 at *
  generalize ((w1.alloc (.cells #[] 55)).alloc (.cells #[] 5)) = W0 at *
  have HT0 := hid hT0
  clear hT0
  clear Hk1 hs1
  go_loopw [4, 5, 17] (fun sv bv iv wr => ∃ (i : Nat) (sl bl : List Int) (gs gb : Nat) (cs cb : Nat), sv = .slice (some ⟨gs, 0, none⟩) sl.length cs ∧ bv = .slice (some ⟨gb, 0, none⟩) bl.length cb ∧ iv = .int .i64 (i : Int) ∧ i ≤ es.length ∧ bl.length ≤ 774 * i ∧ sl.length ≤ i ∧
    Hid (sl = skl es i) ∧ Hid (bl = encB es i 0) ∧ Hid (Two w.heap.size w wr 55 1 (.slice (some ⟨gs, 0, none⟩) sl.length cs) sl.length (sl.map (Value.int .u32)) 5 1 (.slice (some ⟨gb, 0, none⟩) bl.length cb) bl.length (bl.map (Value.int .u8)))) (fun _ _ iv _ => es.length - (intOf iv).toNat)
  case atStart => exact ⟨0, [], [], g1, g2, 0, 0, rfl, rfl, rfl, Nat.zero_le _, Nat.zero_le _, Nat.zero_le _, hid rfl, hid rfl, HT0⟩
  case round =>
    obtain ⟨i, sl, bl, gs, gb, cs, cb, rfl, rfl, rfl, hi, hbl, hsl, HSL, HBL, HT⟩ := hrel
    by_cases hlt : i < es.length
    · have hltI : (i : Int) < (es.length : Int) := by omega
      have hi0 : (0 : Int) ≤ (i : Int) := Int.natCast_nonneg i
      go_upto_if 22 with fail
      go_cut [4, 7, 8] from 22 to 50 (fun sv lv kv wx => ∃ (sl2 : List Int) (gs2 cs2 : Nat), sv = .slice (some ⟨gs2, 0, none⟩) sl2.length cs2 ∧ sl2.length ≤ i + 1 ∧ Hid (sl2 = skl es (i + 1)) ∧
        Hid (Two w.heap.size w wx 55 1 (.slice (some ⟨gs2, 0, none⟩) sl2.length cs2) sl2.length (sl2.map (Value.int .u32)) 5 1 (.slice (some ⟨gb, 0, none⟩) bl.length cb) bl.length (bl.map (Value.int .u8))))
      case first =>
        by_cases h4 : i % 4 = 0
        · have hb4 : ((i : Int) % 4 == 0) = true := by simp; omega
          have H4 := hid h4
          clear h4
          go_wp2_with fail
          go_loopw [7, 8] (fun lv kv wk => ∃ (k lq : Nat), lv = .int .i64 (lq : Int) ∧ kv = .int .i64 (k : Int) ∧ lq < es.length ∧ k ≤ es.length ∧ k ≤ i + 4 ∧ Hid (k = i ∧ lq = i ∨ i < k ∧ lq + 1 = k) ∧ wr = wk) (fun _ kv _ => es.length - (intOf kv).toNat)
          case atStart => exact ⟨i, i, rfl, rfl, hlt, hi, by omega, hid (Or.inl ⟨rfl, rfl⟩), rfl⟩
          case round =>
            rename World => wk
            obtain ⟨k, lq, rfl, rfl, hlq, hk, hk4, HQ, rfl⟩ := hrel
            by_cases hgo : k < es.length ∧ k < i + 4
            · obtain ⟨hka, hkb⟩ := hgo
              have hkaI : (k : Int) < (es.length : Int) := by omega
              have hkbI : (k : Int) < (i : Int) + 4 := by omega
              go_wp2_with fail
              go_roundw
              case rel => exact ⟨k + 1, k, rfl, by go_num, hka, by omega, by omega, hid (Or.inr ⟨by have := HQ.out; omega, rfl⟩), trivial⟩
              case measure => first | (simp [intOf]; done) | (simp [intOf]; omega)
            · have hq : lq = min (4 * (i / 4) + 3) (es.length - 1) := by have := HQ.out; have := H4.out; omega
              have hgl : es[lq]? = some es[lq] := List.getElem?_eq_getElem hlq
              have hsk : skipV es (i / 4) = 65536 * es[lq].doc + (bl.length : Int) := by
                unfold skipV
                rw [← hq, docAt_of hgl, HBL.out, show 4 * (i / 4) = i by have := H4.out; omega]
              have hd0 := (HM.out.2 lq _ hgl).1
              have hd1 := (HM.out.2 lq _ hgl).2.1
              generalize es[lq] = e at hgl hsk hd0 hd1
              obtain ⟨b, off, cp, pv, e1, hKb, x0, -, -⟩ := HV.out.get hgl
              injection e1 with e1 _ e2
              subst e1 e2
              have y0 := (World.cell?_of_block (a := ⟨b, off + lq * 2, none⟩) (HT.out.keeps.block b hKb)).trans x0
              generalize e.doc = dd at hsk hd0 hd1 y0 x0
              have hlqI : (lq : Int) < (es.length : Int) := by omega
              have hlq0 : (0 : Int) ≤ (lq : Int) := Int.natCast_nonneg lq
              have hbs := HT.out.le
              have Hsk := hid hsk
              have Hq := hid hq
              clear hsk hq
              clear x0 hgl hKb
              rcases (by omega : ¬ k < es.length ∨ (k < es.length ∧ ¬ k < i + 4)) with hA | ⟨hA, hB⟩
              · have hkaI : ¬ (k : Int) < (es.length : Int) := by omega
                obtain ⟨i0, hi, hz0, hz1, hz2⟩ := info_partsF Try.infoU
                go_wp2_with (at_builtin; go_must (refine wpList_append_own_at _ rfl _ _ 32 rfl (w.heap.size) 55 i0 (.int .u32 0) 1 4 Try.underlying32 hi hz0 hz1 hz2 rfl (by decide) (.slice (some ⟨gs, 0, none⟩) sl.length cs) sl.length (sl.map (Value.int .u32)) rfl (ownB_keepS HT.out.o1 ((Keeps.refl _ _).alloc (fun b hb => hb) _)) ⟨wr.heap.size, 0, none⟩ 1 1 [.int .u32 (65536 * dd + (bl.length : Int))] rfl (by simp) (own_news (own_lit wr 0 _ _ 1 1 [.int .u32 (65536 * dd + (bl.length : Int))] rfl rfl (by decide) (Nat.zero_le _))) ?_ ?_ ?_ ?_ ?_))
                all_goals (try (first | with_reducible exact one1 _ _ | with_reducible exact one2 _ _ _ | with_reducible exact one4 _ _ _ _ _ | with_reducible exact oneM _ _ | exact rfl | exact fun _ _ => rfl | exact ⟨rfl, rfl⟩ | exact ⟨rfl, rfl, rfl⟩ | exact ⟨rfl, rfl, rfl, rfl⟩ | (unfold maxLen; omega) | omega | (simp; omega) | (simp; done)))
                (try clear hi)
                (try clear hz0)
                (try clear hz1)
                (try clear hz2)
                intro v' w6 hown hgr _ hf
                have hN := (HT.out.alloc _).app hown hgr (by simpa using hf)
                have hl1 : sl.length + 1 = (sl ++ [65536 * dd + (bl.length : Int)]).length := by simp
                have hl2 : sl.map (Value.int .u32) ++ [Value.int .u32 (65536 * dd + (bl.length : Int))] = (sl ++ [65536 * dd + (bl.length : Int)]).map (Value.int .u32) := by simp
                rw [hl1, hl2] at hN
                obtain ⟨g', c', rfl⟩ := ownB_pos hown (by omega)
                have hsx : sl ++ [65536 * dd + (bl.length : Int)] = skl es (i + 1) := by rw [skl_next H4.out, ← HSL.out, Hsk.out]
                have hsl2 : (sl ++ [65536 * dd + (bl.length : Int)]).length ≤ i + 1 := by simp; omega
                rw [hl1] at hown hN
                rw [hl1]
                generalize sl ++ [65536 * dd + (bl.length : Int)] = sl2 at hN hsx hsl2 hl1 hl2 ⊢
                clear hown hgr hf hl1 hl2
                have HN := hid hN
                have Hsx := hid hsx
                clear hN hsx
                go_wp2_with fail
                go_meet
                case rel => exact ⟨sl2, g', c', rfl, hsl2, Hsx, HN⟩
              · have hkaI : (k : Int) < (es.length : Int) := by omega
                have hkbI : ¬ (k : Int) < (i : Int) + 4 := by omega
                obtain ⟨i0, hi, hz0, hz1, hz2⟩ := info_partsF Try.infoU
                go_wp2_with (at_builtin; go_must (refine wpList_append_own_at _ rfl _ _ 32 rfl (w.heap.size) 55 i0 (.int .u32 0) 1 4 Try.underlying32 hi hz0 hz1 hz2 rfl (by decide) (.slice (some ⟨gs, 0, none⟩) sl.length cs) sl.length (sl.map (Value.int .u32)) rfl (ownB_keepS HT.out.o1 ((Keeps.refl _ _).alloc (fun b hb => hb) _)) ⟨wr.heap.size, 0, none⟩ 1 1 [.int .u32 (65536 * dd + (bl.length : Int))] rfl (by simp) (own_news (own_lit wr 0 _ _ 1 1 [.int .u32 (65536 * dd + (bl.length : Int))] rfl rfl (by decide) (Nat.zero_le _))) ?_ ?_ ?_ ?_ ?_))
                all_goals (try (first | with_reducible exact one1 _ _ | with_reducible exact one2 _ _ _ | with_reducible exact one4 _ _ _ _ _ | with_reducible exact oneM _ _ | exact rfl | exact fun _ _ => rfl | exact ⟨rfl, rfl⟩ | exact ⟨rfl, rfl, rfl⟩ | exact ⟨rfl, rfl, rfl, rfl⟩ | (unfold maxLen; omega) | omega | (simp; omega) | (simp; done)))
                (try clear hi)
                (try clear hz0)
                (try clear hz1)
                (try clear hz2)
                intro v' w6 hown hgr _ hf
                have hN := (HT.out.alloc _).app hown hgr (by simpa using hf)
                have hl1 : sl.length + 1 = (sl ++ [65536 * dd + (bl.length : Int)]).length := by simp
                have hl2 : sl.map (Value.int .u32) ++ [Value.int .u32 (65536 * dd + (bl.length : Int))] = (sl ++ [65536 * dd + (bl.length : Int)]).map (Value.int .u32) := by simp
                rw [hl1, hl2] at hN
                obtain ⟨g', c', rfl⟩ := ownB_pos hown (by omega)
                have hsx : sl ++ [65536 * dd + (bl.length : Int)] = skl es (i + 1) := by rw [skl_next H4.out, ← HSL.out, Hsk.out]
                have hsl2 : (sl ++ [65536 * dd + (bl.length : Int)]).length ≤ i + 1 := by simp; omega
                rw [hl1] at hown hN
                rw [hl1]
                generalize sl ++ [65536 * dd + (bl.length : Int)] = sl2 at hN hsx hsl2 hl1 hl2 ⊢
                clear hown hgr hf hl1 hl2
                have HN := hid hN
                have Hsx := hid hsx
                clear hN hsx
                go_wp2_with fail
                go_meet
                case rel => exact ⟨sl2, g', c', rfl, hsl2, Hsx, HN⟩
        · have hb4 : ((i : Int) % 4 == 0) = false := by simp; omega
          have hsn := skl_same (es := es) h4
          have Hsn := hid hsn
          clear hsn
          clear h4
          go_wp2_with fail
          go_meet
          case rel => exact ⟨sl, gs, cs, rfl, by omega, hid (by rw [Hsn.out]; exact HSL.out), HT⟩
      case rest =>
        rename World => wc
        obtain ⟨sl2, gs2, cs2, rfl, hsl2, HSL2, HT2⟩ := hcut
        have hge : es[i]? = some es[i] := List.getElem?_eq_getElem hlt
        generalize es[i] = e at hge
        have hnx := encB_next hge
        have hel := entry_len HM.out hge
        have hk2 := HT2.out.keeps
        have hv2 := HV.out.keep hk2 (fun b hb => hb)
        have hle := HT2.out.le
        have HV2 := hid (hv2.up (L := (· < wc.heap.size)) (fun b hb => Nat.lt_of_lt_of_le hb hle))
        have HGE := hid hge
        have Hnx := hid hnx
        clear hnx
        clear hk2 hv2 hge
        go_wp2_with fail
        refine (ref13_entry A cap es HM.out i e HGE.out wc HV2.out).mono ?_
        rintro e' w5 ⟨v5, rfl, hN5⟩
        obtain ⟨g5, c5, rfl⟩ := ownB_pos hN5.1 (by unfold entryB; have := vlq_ne e.pos.length; simp; omega)
        have hnw := own_news hN5.1
        have hT5 := HT2.out.calls hN5.2
        generalize hye : entryB es i e = ye at *
        have HYE := hid hye
        clear hye
        have hle5 := hT5.le
        have HN5 := hid hN5
        have Hnw := hid hnw
        have HT5 := hid hT5
        clear hN5 hnw hT5
        clear HT2
        obtain ⟨i0, hi, hz0, hz1, hz2⟩ := info_partsF Try.infoF8
        go_wp2_with (at_builtin; go_must (refine wpList_append_own_at _ rfl _ _ 106 rfl (w.heap.size) 5 i0 (.int .u8 0) 1 1 Try.underlying106 hi hz0 hz1 hz2 rfl (by decide) (.slice (some ⟨gb, 0, none⟩) bl.length cb) bl.length (bl.map (Value.int .u8)) rfl HT5.out.o2 ⟨g5, 0, none⟩ ye.length c5 (ye.map (Value.int .u8)) rfl (by simp) Hnw.out ?_ ?_ ?_ ?_ ?_))
        all_goals (try (first | with_reducible exact one1 _ _ | with_reducible exact one2 _ _ _ | with_reducible exact one4 _ _ _ _ _ | with_reducible exact oneM _ _ | exact rfl | exact fun _ _ => rfl | exact ⟨rfl, rfl⟩ | exact ⟨rfl, rfl, rfl⟩ | exact ⟨rfl, rfl, rfl, rfl⟩ | (unfold maxLen; omega) | omega | (simp; omega) | (simp; done)))
        (try clear hi)
        (try clear hz0)
        (try clear hz1)
        (try clear hz2)
        intro v' w6 hown hgr _ hf
        have hN := HT5.out.swap.app hown hgr hf
        have hl1 : bl.length + ye.length = (bl ++ ye).length := by simp
        have hl2 : bl.map (Value.int .u8) ++ ye.map (Value.int .u8) = (bl ++ ye).map (Value.int .u8) := by simp
        have hyl : 0 < ye.length := by rw [← HYE.out]; unfold entryB; have := vlq_ne e.pos.length; simp; omega
        rw [hl1, hl2] at hN
        obtain ⟨g', c', rfl⟩ := ownB_pos hown (by omega)
        have hbx : bl ++ ye = encB es (i + 1) 0 := by rw [Hnx.out, ← HBL.out]
        have hbl2 : (bl ++ ye).length ≤ 774 * (i + 1) := by simp; omega
        rw [hl1] at hown hN
        rw [hl1]
        generalize bl ++ ye = bl2 at hN hbx hbl2 hl1 hl2 ⊢
        replace hN := hN.swap
        clear hown hgr hf hl1 hl2
        have HN := hid hN
        have Hbx := hid hbx
        clear hN hbx
        go_wp2_with fail
        go_roundw
        case rel => exact ⟨i + 1, sl2, bl2, gs2, g', cs2, c', rfl, rfl, by go_num, hlt, hbl2, hsl2, HSL2, Hbx, HN⟩
        case measure => first | (simp [intOf]; done) | (simp [intOf]; omega)
    · obtain rfl : i = es.length := by omega
      have hltI : ¬ (es.length : Int) < (es.length : Int) := by omega
      go_upto_region 18 with fail
      have hle := HT.out.le
      have hgb := (ownB_lt HT.out.o2 (b := gb) rfl).2
      have hTw : Two w.heap.size w (wr.alloc (.cells #[.int .u32 (es.length : Int)] 55)) 55 1 (.slice (some ⟨wr.heap.size, 0, none⟩) 1 1) 1 [.int .u32 (es.length : Int)] 5 1 (.slice (some ⟨gb, 0, none⟩) bl.length cb) bl.length (bl.map (Value.int .u8)) := by
        have hT1 := HT.out.alloc (.cells #[.int .u32 (es.length : Int)] 55)
        refine ⟨own_lit wr w.heap.size _ _ 1 1 [.int .u32 (es.length : Int)] rfl rfl (by decide) hle, hT1.o2, ?_, hT1.keeps, hT1.le⟩
        intro y h1 h2
        simp [Value.ownBlock] at h1 h2
        omega
      have hns := own_news (HT.out.alloc (.cells #[.int .u32 (es.length : Int)] 55)).o1
      have hle1 := hTw.le
      generalize (wr.alloc (.cells #[.int .u32 (es.length : Int)] 55)) = W1 at *
      generalize wr.heap.size = g0 at *
      have hslp : 0 < sl.length := by rw [HSL.out, skl_len]; omega
      have HTw := hid hTw
      have Hns := hid hns
      have Hgb := hid hgb
      clear hTw hns hgb
      clear HT hle
      obtain ⟨i0, hi, hz0, hz1, hz2⟩ := info_partsF Try.infoU
      go_wp2_with (at_builtin; go_must (refine wpList_append_own_at _ rfl _ _ 32 rfl (w.heap.size) 55 i0 (.int .u32 0) 1 4 Try.underlying32 hi hz0 hz1 hz2 rfl (by decide) (.slice (some ⟨g0, 0, none⟩) 1 1) 1 [Value.int .u32 (es.length : Int)] rfl HTw.out.o1 ⟨gs, 0, none⟩ sl.length cs (sl.map (Value.int .u32)) rfl (by simp) Hns.out ?_ ?_ ?_ ?_ ?_))
      all_goals (try (first | with_reducible exact one1 _ _ | with_reducible exact one2 _ _ _ | with_reducible exact one4 _ _ _ _ _ | with_reducible exact oneM _ _ | exact rfl | exact fun _ _ => rfl | exact ⟨rfl, rfl⟩ | exact ⟨rfl, rfl, rfl⟩ | exact ⟨rfl, rfl, rfl, rfl⟩ | (unfold maxLen; omega) | omega | (simp; omega) | (simp; done)))
      (try clear hi)
      (try clear hz0)
      (try clear hz1)
      (try clear hz2)
      intro v' w6 hown hgr _ hf
      have hN := HTw.out.app hown hgr hf
      obtain ⟨g6, c6, rfl⟩ := ownB_pos hown (by omega)
      obtain ⟨l6, hl6⟩ : ∃ l6 : List Int, l6 = (es.length : Int) :: sl := ⟨_, rfl⟩
      have hl1 : 1 + sl.length = l6.length := by rw [hl6]; simp; omega
      have hl2 : Value.int .u32 (es.length : Int) :: sl.map (Value.int .u32) = l6.map (Value.int .u32) := by rw [hl6]; rfl
      rw [hl2, hl1] at hN
      rw [hl1]
      have hl6b : l6.length ≤ 100 := by omega
      clear hown hgr hf hl1 hl2 HTw Hns
      have hby : ∀ x ∈ bl, Byte x := by rw [HBL.out]; exact encB_byte es _ _
      obtain ⟨t, ht⟩ : ∃ t : ByteArray, t = ⟨(bl.map fun x => UInt8.ofNat x.toNat).toArray⟩ := ⟨_, rfl⟩
      have htl : bsL t = bl := by
        rw [ht]
        unfold bsL
        simp only [List.map_map]
        conv => rhs; rw [← List.map_id bl]
        apply List.map_congr_left
        intro x hx
        have := hby x hx
        unfold Byte at this
        simp only [Function.comp, id]
        rw [UInt8.toNat_ofNat']
        omega
      have hts : t.size = bl.length := by rw [← bsL_len, htl]
      have hcv := run_convert_bytes_back (P := Try.prog) w6 106 9 5 ⟨gb, 0, none⟩ cb (bl.map fun x => UInt8.ofNat x.toNat) Try.underlying106 Try.underlying5 Try.underlying9 (by
        intro j hj
        rw [List.length_map] at hj
        refine own_news hN.o2 j _ ?_
        rw [List.getElem?_map, List.getElem?_eq_getElem hj, List.getElem_map, Option.map_some]
        have := hby _ (List.getElem_mem hj)
        unfold Byte at this
        rw [UInt8.toNat_ofNat']
        congr 2
        omega)
      rw [List.length_map, ← ht] at hcv
      have hle6 := hN.le
      have HN := hid hN
      have Ht := hid ht
      have Htl := hid htl
      have Hl6 := hid hl6
      clear hN ht htl hl6
      go_wp2_with fail
      refine (ref7_cells2 t (by omega) w6).mono ?_
      rintro e' w7 ⟨g7, c7, rfl, hN7⟩
      rw [Htl.out] at hN7 ⊢
      have hT7 := HN.out.calls hN7.2
      have hnw := own_news hN7.1
      have hpl : (packC bl).length ≤ 20000 := by rw [packC_len]; omega
      have hle7 := hT7.le
      obtain ⟨y7, hy7⟩ : ∃ y7, y7 = packC bl := ⟨_, rfl⟩
      rw [← hy7] at hN7 hnw hpl ⊢
      clear hcv hle1 hle6
      have HN7 := hid hN7
      have HT7 := hid hT7
      have Hnw := hid hnw
      have Hy7 := hid hy7
      clear hN7 hT7 hnw hy7
      obtain ⟨i0, hi, hz0, hz1, hz2⟩ := info_partsF Try.infoU
      go_wp2_with (at_builtin; go_must (refine wpList_append_own_at _ rfl _ _ 32 rfl (w.heap.size) 55 i0 (.int .u32 0) 1 4 Try.underlying32 hi hz0 hz1 hz2 rfl (by decide) (.slice (some ⟨g6, 0, none⟩) l6.length c6) l6.length (l6.map (Value.int .u32)) rfl HT7.out.o1 ⟨g7, 0, none⟩ y7.length c7 (y7.map (Value.int .u32)) rfl (by simp) Hnw.out ?_ ?_ ?_ ?_ ?_))
      all_goals (try (first | with_reducible exact one1 _ _ | with_reducible exact one2 _ _ _ | with_reducible exact one4 _ _ _ _ _ | with_reducible exact oneM _ _ | exact rfl | exact fun _ _ => rfl | exact ⟨rfl, rfl⟩ | exact ⟨rfl, rfl, rfl⟩ | exact ⟨rfl, rfl, rfl, rfl⟩ | (unfold maxLen; omega) | omega | (simp; omega) | (simp; done)))
      (try clear hi)
      (try clear hz0)
      (try clear hz1)
      (try clear hz2)
      intro v' w8 hown hgr _ hf
      have hN := HT7.out.app hown hgr hf
      obtain ⟨g', c', rfl⟩ := ownB_pos hown (by have := Hl6.out; rw [this]; simp; omega)
      have hfin : l6 ++ y7 = encL es := by rw [Hl6.out, Hy7.out, HSL.out, HBL.out]; rfl
      have hl1 : l6.length + y7.length = (encL es).length := by rw [← hfin]; simp
      have hl2 : l6.map (Value.int .u32) ++ y7.map (Value.int .u32) = (encL es).map (Value.int .u32) := by rw [← hfin]; simp
      rw [hl1, hl2] at hN
      rw [hl1]
      clear hown hgr hf hl1 hl2
      have HN := hid hN
      clear hN
      go_wp2_with fail
      exact hR'.out _ _ ⟨g', c', rfl, HN.out.o1, HN.out.keeps⟩
end Go.Proofs.Ytbmgmjfpoepgpaa
