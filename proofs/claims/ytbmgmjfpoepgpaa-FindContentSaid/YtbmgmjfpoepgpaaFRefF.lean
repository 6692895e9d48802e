/- Lists of a segment; contract of a reference: whether a content may be. Printed by gen/may14.py. -/
import Derived.Test.YtbmgmjfpoepgpaaFRefE
import Derived.Deep.CutRange
import Derived.Test.YtbmgmjfpoepgpaaQuietC
namespace Go.Proofs.Ytbmgmjfpoepgpaa
open Go.RowKit

structure LstM where
  key : ByteArray
  rcd : Int
  ents : List EntM
def ListAt (w : World) (K : Nat → Prop) : List LstM → List Value → Prop
  | [], cs => cs = []
  | l :: ls, cs => ∃ v cs', cs = .string l.key :: .int .i64 l.rcd :: v :: cs' ∧ EntV w K v l.ents ∧ ListAt w K ls cs'
def ListsV (w : World) (K : Nat → Prop) (v : Value) (ls : List LstM) : Prop := ∃ cells, SlAt w K 3 v ls.length cells ∧ ListAt w K ls cells
theorem ListAt.get {w : World} {K : Nat → Prop} : ∀ (ls : List LstM) (cs : List Value), ListAt w K ls cs → ∀ (i : Nat) (l : LstM), ls[i]? = some l → ∃ v, cs[i * 3]? = some (.string l.key) ∧ cs[i * 3 + 1]? = some (.int .i64 l.rcd) ∧ cs[i * 3 + 2]? = some v ∧ EntV w K v l.ents
  | [], _, _, i, e, hi => by simp at hi
  | x :: es, cs, ⟨v, cs', h1, h2, h3⟩, 0, e, hi => by
    simp at hi
    subst hi
    exact ⟨v, by rw [h1]; rfl, by rw [h1]; rfl, by rw [h1]; rfl, h2⟩
  | x :: es, cs, ⟨v, cs', h1, h2, h3⟩, i + 1, e, hi => by
    obtain ⟨pv, g1, g2, g3, g4⟩ := ListAt.get es cs' h3 i e (by simpa using hi)
    have e1 : (i + 1) * 3 = i * 3 + 3 := by omega
    exact ⟨pv, by rw [h1, e1]; exact g1, by rw [h1, e1]; exact g2, by rw [h1, e1]; exact g3, g4⟩
theorem ListAt.keep {w w' : World} {K L : Nat → Prop} (k : Keeps L w w') (hL : ∀ b, K b → L b) : ∀ (es : List LstM) (cs : List Value), ListAt w K es cs → ListAt w' K es cs
  | [], _, h => h
  | _ :: es, _, ⟨v, cs', h1, h2, h3⟩ => ⟨v, cs', h1, h2.keep k hL, ListAt.keep k hL es cs' h3⟩
theorem ListAt.up {w : World} {K L : Nat → Prop} (hL : ∀ b, K b → L b) : ∀ (es : List LstM) (cs : List Value), ListAt w K es cs → ListAt w L es cs
  | [], _, h => h
  | _ :: es, _, ⟨v, cs', h1, h2, h3⟩ => ⟨v, cs', h1, h2.up hL, ListAt.up hL es cs' h3⟩
theorem ListAt.append {w : World} {K : Nat → Prop} : ∀ (es es' : List LstM) (cs cs' : List Value), ListAt w K es cs → ListAt w K es' cs' → ListAt w K (es ++ es') (cs ++ cs')
  | [], _, cs, _, h, h' => by
    have : cs = [] := h
    subst this; exact h'
  | _ :: es, es', _, cs2, ⟨v, cs', h1, h2, h3⟩, h' => ⟨v, cs' ++ cs2, by rw [h1]; rfl, h2, ListAt.append es es' cs' cs2 h3 h'⟩
theorem ListAt.len {w : World} {K : Nat → Prop} : ∀ (es : List LstM) (cs : List Value), ListAt w K es cs → cs.length = es.length * 3
  | [], cs, h => by have : cs = [] := h; subst this; rfl
  | _ :: es, _, ⟨v, cs', h1, h2, h3⟩ => by have := ListAt.len es cs' h3; rw [h1]; simp [this]; omega
theorem ListsV.get {w : World} {K : Nat → Prop} {v : Value} {ls : List LstM} (h : ListsV w K v ls) {i : Nat} {l : LstM} (hi : ls[i]? = some l) :
    ∃ b off cap ev, v = .slice (some ⟨b, off, none⟩) ls.length cap ∧ K b ∧ w.cell? ⟨b, off + i * 3, none⟩ = some (.string l.key) ∧ w.cell? ⟨b, off + i * 3 + 1, none⟩ = some (.int .i64 l.rcd) ∧ w.cell? ⟨b, off + i * 3 + 2, none⟩ = some ev ∧ EntV w K ev l.ents := by
  obtain ⟨cells, ⟨A, cap, h1, h2, h3, h4, h5⟩, hE⟩ := h
  have hlt := (List.getElem?_eq_some_iff.1 hi).1
  obtain ⟨b, off, e1, hb, hc⟩ := h5 (by omega)
  obtain ⟨pv, g1, g2, g3, g4⟩ := hE.get ls cells i l hi
  exact ⟨b, off, cap, pv, by rw [h1, e1], hb, hc _ _ g1, hc _ _ g2, hc _ _ g3, g4⟩
theorem ListsV.form {w : World} {K : Nat → Prop} {v : Value} {es : List LstM} (h : ListsV w K v es) : ∃ A cap, v = .slice A es.length cap ∧ es.length ≤ cap ∧ cap ≤ maxLen := by
  obtain ⟨cells, h, _⟩ := h
  exact h.form
theorem ListsV.keep {w w' : World} {K L : Nat → Prop} {v : Value} {es : List LstM} (h : ListsV w K v es) (k : Keeps L w w') (hL : ∀ b, K b → L b) : ListsV w' K v es := by
  obtain ⟨cells, h1, h2⟩ := h
  exact ⟨cells, h1.keep k hL, ListAt.keep k hL _ _ h2⟩
theorem ListsV.up {w : World} {K L : Nat → Prop} {v : Value} {es : List LstM} (h : ListsV w K v es) (hL : ∀ b, K b → L b) : ListsV w L v es := by
  obtain ⟨cells, h1, h2⟩ := h
  exact ⟨cells, h1.mono hL, ListAt.up hL _ _ h2⟩

def okL (rn : Nat) (ls : List LstM) (i : Nat) (l : LstM) : Prop := (∀ p : LstM, 0 < i → ls[i - 1]? = some p → ltB p.key l.key = true) ∧ 1 ≤ l.rcd ∧ l.rcd ≤ 65535 ∧ 0 < l.ents.length ∧ MayE l.ents ∧ ∀ (k : Nat) (e : EntM), l.ents[k]? = some e → e.doc < rn
def MayL (rn : Nat) (ls : List LstM) : Prop := rn ≤ 64 ∧ ls.length ≤ 256 ∧ ∀ i l, ls[i]? = some l → okL rn ls i l
theorem mayB_iff {es : List EntM} : mayB es = true ↔ MayE es := by
  constructor
  · intro h
    by_cases hm : MayE es
    · exact hm
    · rw [mayB_false hm] at h; cases h
  · exact mayB_true

set_option maxRecDepth 100000 in
set_option maxHeartbeats 4000000 in
theorem ref14_may (rA : Option Addr) (rn rc : Nat) (hrc : rn ≤ 9223372036854775807) (A : Option Addr) (cap : Nat) (ls : List LstM) (hkey : ∀ l ∈ ls, l.key.size ≤ 17) (w : World) (hv : ListsV w (· < w.heap.size) (.slice A ls.length cap) ls) :
    Calls Try.prog 50 #[.slice rA rn rc, .slice A ls.length cap] w fun e w' => ∃ r, e = .returned (.bool r) ∧ (r = true ↔ MayL rn ls) ∧ Keeps (· < w.heap.size) w w' := by
  obtain ⟨A0, cap0, he, hc1, hc2⟩ := hv.form
  injection he with e1 _ e3
  subst e1 e3
  unfold maxLen at hc2
  have HV := hid hv
  clear hv
  have HK0 := hid (show ∀ (i : Nat) (l : LstM), ls[i]? = some l → l.key.size ≤ 17 from fun i l h => hkey l (List.mem_of_getElem? h))
  clear hkey
  refine calls_hide fun R' hR' => ?_
  go_enter Try.func50, Try.ntmps50
  by_cases h64n : 64 < rn
  · have h64I : decide (64 < rn) = true := decide_eq_true (by omega)
    have h64J : (rn : Int) > 64 := by omega
    go_wp2_with fail
    exact hR'.out _ _ ⟨false, rfl, ⟨fun h => (by cases h), fun h => absurd h.1 (by omega)⟩, Keeps.refl _ _⟩
  have h64 : rn ≤ 64 := by omega
  have h64J : ¬ (rn : Int) > 64 := by omega
  by_cases h256n : 256 < ls.length
  · have h256J : (ls.length : Int) > 256 := by omega
    go_wp2_with fail
    exact hR'.out _ _ ⟨false, rfl, ⟨fun h => (by cases h), fun h => absurd h.2.1 (by omega)⟩, Keeps.refl _ _⟩
  have h256 : ls.length ≤ 256 := by omega
  have h256J : ¬ (ls.length : Int) > 256 := by omega
  go_wp2_with fail
  go_loopw [18] (fun iv wr => ∃ i : Nat, iv = .int .i64 (i : Int) ∧ i ≤ ls.length ∧ Hid (∀ i' l, i' < i → ls[i']? = some l → okL rn ls i' l) ∧ Hid (Keeps (· < w.heap.size) w wr)) (fun iv _ => ls.length - (intOf iv).toNat)
  case atStart => exact ⟨0, rfl, Nat.zero_le _, hid (fun i' l h => by omega), hid (Keeps.refl _ _)⟩
  case round =>
    obtain ⟨i, rfl, hi, HO, HK⟩ := hrel
    by_cases hltn : ¬ i < ls.length
    · obtain rfl : i = ls.length := by omega
      have hltI : ¬ (ls.length : Int) < (ls.length : Int) := by omega
      go_wp2_with fail
      exact hR'.out _ _ ⟨true, rfl, ⟨fun _ => ⟨h64, h256, fun i' l hl => HO.out i' l (List.getElem?_eq_some_iff.1 hl).1 hl⟩, fun _ => rfl⟩, HK.out⟩
    have hlt : i < ls.length := by omega
    have hltI : (i : Int) < (ls.length : Int) := by omega
    have hi0 : (0 : Int) ≤ (i : Int) := Int.natCast_nonneg i
    have hgl : ls[i]? = some ls[i] := List.getElem?_eq_getElem hlt
    generalize ls[i] = l at hgl
    obtain ⟨b, off, cp, ev, e1, hKb, x0, x1, x2, hev⟩ := HV.out.get hgl
    injection e1 with e1 _ e2
    subst e1 e2
    obtain ⟨eA, ec, rfl, hp1, hp2⟩ := hev.form
    unfold maxLen at hp2
    have y0 := (World.cell?_of_block (a := ⟨b, off + i * 3, none⟩) (HK.out.block b hKb)).trans x0
    have y1 := (World.cell?_of_block (a := ⟨b, off + i * 3 + 1, none⟩) (HK.out.block b hKb)).trans x1
    have y2 := (World.cell?_of_block (a := ⟨b, off + i * 3 + 2, none⟩) (HK.out.block b hKb)).trans x2
    have hsz := HK.out.size
    have hks := HK0.out i l hgl
    obtain ⟨rv, hrv⟩ : ∃ d, d = l.rcd := ⟨_, rfl⟩
    obtain ⟨kv, hkv⟩ : ∃ d, d = l.key := ⟨_, rfl⟩
    obtain ⟨ne, hne⟩ : ∃ d, d = l.ents.length := ⟨_, rfl⟩
    rw [← hrv] at y1
    rw [← hkv] at y0 hks
    rw [← hne] at y2 hp1
    have hev1 : EntV wr (· < w.heap.size) (.slice eA ne ec) l.ents := by rw [hne]; exact hev.keep HK.out (fun b hb => hb)
    have HEV := hid hev1
    have HGL := hid hgl
    have HRV := hid hrv
    have HKV := hid hkv
    have HNE := hid hne
    have HKB := hid hKb
    clear x0 x1 x2 hev hev1 hgl hrv hkv hne
    go_upto_region 7 with fail
    refine wp_gen (fun W => Blk W wr.heap.size [.string kv, .int .i64 rv, .slice eA ne ec] ∧ Keeps (· < w.heap.size) w W ∧ wr.heap.size + 1 = W.heap.size ∧ Keeps (· < wr.heap.size) wr W) ⟨Blk.new wr _ _, HK.out.alloc (fun b hb => by omega) _, by simp, (Keeps.refl _ _).alloc (fun b hb => hb) _⟩ ?_
    rintro W ⟨hbe, hkq, hsW, hkr⟩
    have hev2 := HEV.out.keep hkr (fun b hb => by omega)
    generalize wr.heap.size = be at *
    clear HK y0 y1 y2 hkr HEV
    have hbe0 := hbe
    have z0 := (hbe0).cell 0
    have z1 := (hbe0).cell 1
    have z2 := (hbe0).cell 2
    simp only [List.getElem?_cons_zero, List.getElem?_cons_succ] at z0 z1 z2
    clear hbe0
    -- the callees
    have hMq : ∀ p : KP W W.heap.size, Calls Try.prog 59 #[.slice eA ne ec] p.w fun e w' => e = .returned (.bool (mayB l.ents)) ∧ ∃ q : KP W W.heap.size, w' = q.w := by
      intro p
      have hs' := p.k.size
      have he2 := (hev2.keep p.k (fun b hb => by omega)).up (L := (· < p.w.heap.size)) (fun b hb => by omega)
      rw [HNE.out] at he2 ⊢
      exact p.calls (Nat.le_refl _) (ref13_may eA ec l.ents p.w he2)
    have hlB := hbe.lt
    have c0 := fun p : KP W W.heap.size => KP.cell hlB z0 p
    have c1 := fun p : KP W W.heap.size => KP.cell hlB z1 p
    have c2 := fun p : KP W W.heap.size => KP.cell hlB z2 p
    have HBE := hid hbe
    have HKq := hid hkq
    have HEV2 := hid hev2
    obtain ⟨mb, hmb⟩ : ∃ mb, mb = mayB l.ents := ⟨_, rfl⟩
    rw [← hmb] at hMq
    have HMq := hid hMq
    have Hmb := hid hmb
    clear hMq hmb
    clear hbe hkq hev2
    go_cut [60] from 25 to 59 (fun bv wx => ∃ r : Bool, bv = .bool r ∧ Hid (r = false → (∀ p : LstM, 0 < i → ls[i - 1]? = some p → ltB p.key l.key = true) ∧ 1 ≤ l.rcd ∧ l.rcd ≤ 65535 ∧ 0 < l.ents.length ∧ MayE l.ents) ∧ Hid (r = true → ¬ okL rn ls i l) ∧ Hid (Keeps (· < W.heap.size) W wx))
    case first =>
      by_cases h0 : i = 0
      · have f0 : decide (0 < i) = false := decide_eq_false (by omega)
        have f0I : ¬ 0 < i := by omega
        have H0 := hid h0
        clear h0
        by_cases h1 : rv < 1
        · have f1 : decide (rv < 1) = true := decide_eq_true h1
          refine wp_region_class W.heap.size (by kernel_rfl) (by kernel_rfl) ?_
          repeat (go_big_quiet_step ((exact HMq.out _)))
          refine wpQuiet_nil ?_
          rintro _ ⟨⟨wq, hkq⟩, rfl⟩
          go_wp2_with fail
          go_meet
          case rel => exact ⟨true, rfl, hid (fun h => by cases h), hid (fun _ h9 => by have := h9.2.1; have := HRV.out; omega), hid hkq⟩
        have f1 : decide (rv < 1) = false := decide_eq_false h1
        by_cases h2 : 65535 < rv
        · have f2 : decide (65535 < rv) = true := decide_eq_true h2
          refine wp_region_class W.heap.size (by kernel_rfl) (by kernel_rfl) ?_
          repeat (go_big_quiet_step ((exact HMq.out _)))
          refine wpQuiet_nil ?_
          rintro _ ⟨⟨wq, hkq⟩, rfl⟩
          go_wp2_with fail
          go_meet
          case rel => exact ⟨true, rfl, hid (fun h => by cases h), hid (fun _ h9 => by have := h9.2.2.1; have := HRV.out; omega), hid hkq⟩
        have f2 : decide (65535 < rv) = false := decide_eq_false h2
        by_cases h3 : ne = 0
        · have f3 : ((ne : Int) == 0) = true := by simp [h3]
          have H3 := hid h3
          clear h3
          refine wp_region_class W.heap.size (by kernel_rfl) (by kernel_rfl) ?_
          repeat (go_big_quiet_step ((exact HMq.out _)))
          refine wpQuiet_nil ?_
          rintro _ ⟨⟨wq, hkq⟩, rfl⟩
          go_wp2_with fail
          go_meet
          case rel => exact ⟨true, rfl, hid (fun h => by cases h), hid (fun _ h9 => by have := h9.2.2.2.1; have := HNE.out; have := H3.out; omega), hid hkq⟩
        have f3 : ((ne : Int) == 0) = false := by simp [h3]
        refine wp_region_class W.heap.size (by kernel_rfl) (by kernel_rfl) ?_
        repeat (go_big_quiet_step ((exact HMq.out _)))
        refine wpQuiet_nil ?_
        rintro _ ⟨⟨wq, hkq⟩, rfl⟩
        go_wp2_with fail
        go_meet
        case rel => exact ⟨_, rfl, hid (fun h => ⟨fun p h0 hp => absurd h0 f0I, by have := HRV.out; omega, by have := HRV.out; omega, by have := HNE.out; omega, mayB_iff.1 (by rw [← Hmb.out]; revert h; cases mb <;> simp)⟩), hid (fun h h9 => by have h8 := mayB_true h9.2.2.2.2.1; rw [← Hmb.out] at h8; rw [h8] at h; cases h), hid hkq⟩
      have f0 : decide (0 < i) = true := decide_eq_true (by omega)
      have f0I : 0 < i := by omega
      obtain ⟨q, hqi⟩ : ∃ q, q = i - 1 := ⟨_, rfl⟩
      have hql : q < ls.length := by omega
      have hgq : ls[q]? = some ls[q] := List.getElem?_eq_getElem hql
      generalize ls[q] = p at hgq
      obtain ⟨b', off', cp', pv, e1, hKb', x0, -, -, -⟩ := HV.out.get hgq
      injection e1 with e1 _ e2
      injection e1 with e1
      injection e1 with e1 e3 _
      subst e1 e3
      have y0 := (World.cell?_of_block (a := ⟨b, off + q * 3, none⟩) (HKq.out.block b hKb')).trans x0
      have hps := HK0.out q p hgq
      obtain ⟨pk, hpk⟩ : ∃ d, d = p.key := ⟨_, rfl⟩
      rw [← hpk] at y0 hps
      have hqw : IntKind.i64.wrap ((i : Int) - 1) = (q : Int) := by rw [IntWalk.i64_in _ (by omega)]; omega
      have hq0 : (0 : Int) ≤ (q : Int) := Int.natCast_nonneg q
      have hqI : (q : Int) < (ls.length : Int) := by omega
      have HGQ := hid hgq
      have HPK := hid hpk
      have hLq := fun p : KP W W.heap.size => p.calls (Nat.le_refl _) ((ref14_less pk kv (by omega) (by omega) p.w).mono fun e w' ⟨he, n, hw⟩ => ⟨he, by rw [← hw]; exact p.draw n⟩)
      rw [hqi] at y0
      have c3 := fun p : KP W W.heap.size => KP.cell (by omega : b < W.heap.size) y0 p
      obtain ⟨lb, hlb⟩ : ∃ lb, lb = Op.bytesLess pk.toList kv.toList := ⟨_, rfl⟩
      rw [← hlb] at hLq
      clear x0 hgq hpk hKb' e2 y0 hqw
      have HQI := hid hqi
      clear hqi
      cases lb with
      | false =>
        have HLq := hid hLq
        have HLB := hid hlb
        clear hLq hlb
        refine wp_region_class W.heap.size (by kernel_rfl) (by kernel_rfl) ?_
        repeat (go_big_quiet_step ((first | exact HMq.out _ | exact HLq.out _)))
        refine wpQuiet_nil ?_
        rintro _ ⟨⟨wq, hkq⟩, rfl⟩
        go_wp2_with fail
        go_meet
        case rel => exact ⟨true, rfl, hid (fun h => by cases h), hid (fun _ h9 => by have h8 := h9.1 p f0I (by rw [← HQI.out]; exact HGQ.out); rw [← HKV.out, ← HPK.out] at h8; unfold ltB at h8; rw [← HLB.out] at h8; cases h8), hid hkq⟩
      | true =>
        have HLB := hid (show ltB pk kv = true from hlb.symm)
        have HLq := hid hLq
        clear hLq hlb
        by_cases h1 : rv < 1
        · have f1 : decide (rv < 1) = true := decide_eq_true h1
          refine wp_region_class W.heap.size (by kernel_rfl) (by kernel_rfl) ?_
          repeat (go_big_quiet_step ((first | exact HMq.out _ | exact HLq.out _)))
          refine wpQuiet_nil ?_
          rintro _ ⟨⟨wq, hkq⟩, rfl⟩
          go_wp2_with fail
          go_meet
          case rel => exact ⟨true, rfl, hid (fun h => by cases h), hid (fun _ h9 => by have := h9.2.1; have := HRV.out; omega), hid hkq⟩
        have f1 : decide (rv < 1) = false := decide_eq_false h1
        by_cases h2 : 65535 < rv
        · have f2 : decide (65535 < rv) = true := decide_eq_true h2
          refine wp_region_class W.heap.size (by kernel_rfl) (by kernel_rfl) ?_
          repeat (go_big_quiet_step ((first | exact HMq.out _ | exact HLq.out _)))
          refine wpQuiet_nil ?_
          rintro _ ⟨⟨wq, hkq⟩, rfl⟩
          go_wp2_with fail
          go_meet
          case rel => exact ⟨true, rfl, hid (fun h => by cases h), hid (fun _ h9 => by have := h9.2.2.1; have := HRV.out; omega), hid hkq⟩
        have f2 : decide (65535 < rv) = false := decide_eq_false h2
        by_cases h3 : ne = 0
        · have f3 : ((ne : Int) == 0) = true := by simp [h3]
          have H3 := hid h3
          clear h3
          refine wp_region_class W.heap.size (by kernel_rfl) (by kernel_rfl) ?_
          repeat (go_big_quiet_step ((first | exact HMq.out _ | exact HLq.out _)))
          refine wpQuiet_nil ?_
          rintro _ ⟨⟨wq, hkq⟩, rfl⟩
          go_wp2_with fail
          go_meet
          case rel => exact ⟨true, rfl, hid (fun h => by cases h), hid (fun _ h9 => by have := h9.2.2.2.1; have := HNE.out; have := H3.out; omega), hid hkq⟩
        have f3 : ((ne : Int) == 0) = false := by simp [h3]
        refine wp_region_class W.heap.size (by kernel_rfl) (by kernel_rfl) ?_
        repeat (go_big_quiet_step ((first | exact HMq.out _ | exact HLq.out _)))
        refine wpQuiet_nil ?_
        rintro _ ⟨⟨wq, hkq⟩, rfl⟩
        go_wp2_with fail
        go_meet
        case rel => exact ⟨_, rfl, hid (fun h => ⟨fun p h0 hp => by rw [← HQI.out, HGQ.out] at hp; injection hp with hp; subst hp; rw [← HKV.out, ← HPK.out]; exact HLB.out, by have := HRV.out; omega, by have := HRV.out; omega, by have := HNE.out; omega, mayB_iff.1 (by rw [← Hmb.out]; revert h; cases mb <;> simp)⟩), hid (fun h h9 => by have h8 := mayB_true h9.2.2.2.2.1; rw [← Hmb.out] at h8; rw [h8] at h; cases h), hid hkq⟩
    case rest =>
      rename World => wc
      obtain ⟨r, rfl, HR, HR2, HKc⟩ := hcut
      clear z0 z1 z2 c0 c1 c2 HMq
      have hkc := HKq.out.trans (HKc.out.mono fun b hb => by have := HKq.out.size; have := HBE.out.lt; omega)
      have hbc := HBE.out.keep HKc.out HBE.out.lt
      have hec := HEV2.out.keep HKc.out (fun b hb => by have := HBE.out.lt; omega)
      have hbc0 := hbc
      have z0 := (hbc0).cell 0
      have z1 := (hbc0).cell 1
      have z2 := (hbc0).cell 2
      simp only [List.getElem?_cons_zero, List.getElem?_cons_succ] at z0 z1 z2
      clear hbc0 hbc HBE HKq HKc HEV2
      have Hkc := hid hkc
      have Hec := hid hec
      clear hkc hec
      cases r with
      | true =>
        go_wp2_with fail
        exact hR'.out _ _ ⟨false, rfl, ⟨fun h => (by cases h), fun hM => absurd (hM.2.2 i l HGL.out) (by first | exact HR2.out rfl | exact HR2.out trivial)⟩, Hkc.out⟩
      | false =>
        have hr := HR.out rfl
        clear HR
        have Hr := hid hr
        clear hr
        go_wp2_with fail
        go_loopw [64] (fun kv9 wk => ∃ k : Nat, kv9 = .int .i64 (k : Int) ∧ k ≤ ne ∧ Hid (∀ (k' : Nat) (e : EntM), k' < k → l.ents[k']? = some e → e.doc < rn) ∧ wc = wk) (fun kv9 _ => ne - (intOf kv9).toNat)
        case atStart => exact ⟨0, rfl, Nat.zero_le _, hid (fun k' e h => by omega), rfl⟩
        case round =>
          rename World => wk
          obtain ⟨k, rfl, hk, HD, rfl⟩ := hrel
          by_cases hkn : k < ne
          · have hknI : (k : Int) < (ne : Int) := by omega
            have hk0 : (0 : Int) ≤ (k : Int) := Int.natCast_nonneg k
            have hge : l.ents[k]? = some (l.ents[k]'(by have := HNE.out; omega)) := List.getElem?_eq_getElem _
            generalize l.ents[k]'(by have := HNE.out; omega) = e at hge
            obtain ⟨b2, off2, c2, pv2, e1, hK2, v0, -, -⟩ := Hec.out.get hge
            injection e1 with e1 em e2
            clear em
            subst e1 e2
            obtain ⟨dd, hdd⟩ : ∃ d, d = e.doc := ⟨_, rfl⟩
            rw [← hdd] at v0
            have HGE := hid hge
            have HDD := hid hdd
            clear hge hdd hK2
            by_cases hd : dd ≥ (rn : Int)
            · go_wp2_with fail
              exact hR'.out _ _ ⟨false, rfl, ⟨fun h => (by cases h), fun hM => by have h8 := (hM.2.2 i l HGL.out).2.2.2.2.2 k e HGE.out; have := HDD.out; omega⟩, Hkc.out⟩
            · go_wp2_with fail
              go_roundw
              case rel => exact ⟨k + 1, by go_num, by omega, hid (fun k' e' h he => by
                by_cases hkk : k' = k
                · subst hkk
                  rw [HGE.out] at he; injection he with he
                  have := HDD.out
                  rw [← he]; omega
                · exact HD.out k' e' (by omega) he), by first | trivial | rfl⟩
              case measure => first | (simp [intOf]; done) | (simp [intOf]; omega)
          · have hknI : ¬ (k : Int) < (ne : Int) := by omega
            go_wp2_with fail
            go_roundw
            case rel => exact ⟨i + 1, by go_num, by omega, hid (fun i' l' h hl => by
                by_cases hii : i' = i
                · subst hii
                  rw [HGL.out] at hl; injection hl with hl
                  subst hl
                  obtain ⟨r1, r2, r3, r4, r5⟩ := Hr.out
                  exact ⟨r1, r2, r3, r4, r5, fun k' e' he => HD.out k' e' (by have := (List.getElem?_eq_some_iff.1 he).1; have := HNE.out; omega) he⟩
                · exact HO.out i' l' (by omega) hl), Hkc⟩
            case measure => first | (simp [intOf]; done) | (simp [intOf]; omega)
end Go.Proofs.Ytbmgmjfpoepgpaa
