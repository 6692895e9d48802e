/- FindLists: the closure, the walk. -/
import Derived.Test.YtbmgmjfpoepgpaaFLawD
import Derived.Deep.RegionHeld3
namespace Go.Proofs.Ytbmgmjfpoepgpaa
open Go.RowKit

def ListClo2 (f : FuncId) : Prop := ∀ (w : World) (K : Nat → Prop) (r m c : Nat) (s : St) (ba bk bo : Nat) (a k : Int) (v0 : Value), RM w K r m c s → Blk w ba [.int .i64 a] → Blk w bk [.int .i64 k] → Blk w bo [v0] → K bo → 0 ≤ a ∧ a ≤ 70000 → -9223372036854775808 ≤ k ∧ k ≤ 9223372036854775807 →
  Calls Try.prog f #[.pointer (some ⟨r, 0, none⟩), .pointer (some ⟨ba, 0, none⟩), .pointer (some ⟨bk, 0, none⟩), .pointer (some ⟨bo, 0, none⟩)] w fun e w' => e = .returned (.tuple #[]) ∧ RM w' K r m c ((listT a k).exec s).2 ∧
    (∃ g, Blk w' bo [g] ∧ EntV w' (fun b => b ≠ r ∧ b ≠ m ∧ b ≠ c ∧ ¬ K b ∧ b < w'.heap.size) g ((listT a k).exec s).1) ∧ Keeps (fun b => K b ∧ b ≠ bo) w w'
set_option maxRecDepth 100000 in
set_option maxHeartbeats 1000000 in
theorem lists_clo : ListClo2 25 := by
  intro w K r m c s ba bk bo a k v0 h hba hbk hbo hKo ha hkr
  have HT := hid (find_list h a k ⟨by omega, by omega⟩ hkr)
  have x0 := (hba).cell 0
  simp only [List.getElem?_cons_zero] at x0
  have z0 := (hbk).cell 0
  simp only [List.getElem?_cons_zero] at z0
  generalize (listT a k).exec s = res at *
  have Hbo := hid hbo
  have HKo := hid hKo
  clear h hba hbk hbo ha hKo hkr
  refine calls_hide fun R' hR' => ?_
  go_enter Try.func25, Try.ntmps25
  go_wp2_with fail
  refine HT.out.mono ?_
  rintro e w1 ⟨g, G, rfl, hr1, ho1, hg1, hG1, hk1⟩
  obtain ⟨A, cp, rfl⟩ := own_slice0 ho1.choose_spec.1
  have hb1 := Hbo.out.keep hk1 HKo.out
  have y0 := hb1.cell 0
  have f0 := hb1.free 0
  simp only [List.getElem?_cons_zero] at y0
  have hst := store_list hr1 ho1 hg1 hG1 hk1 Hbo.out HKo.out
  have Hst := hid hst
  clear hst
  clear hr1 ho1 hg1 hG1 hk1 hb1 x0 z0 HT
  go_wp2_with fail
  go_end0
  exact hR'.out _ _ ⟨rfl, Hst.out.1, ⟨_, Hst.out.2.1, Hst.out.2.2.1.up (fun b hb => by simpa using hb)⟩, Hst.out.2.2.2⟩
theorem whole_list2 {f : FuncId} (hent : ∀ (args : Array Value) (w : World), (callFunc f args).run Try.prog w = .ok (.enter f args) w) (hf : ListClo2 f) {w : World} {m c : Nat} {μ : MemS} (hm : MemAt w m c μ) (K : Nat → Prop) (hKm : ¬ K m) (hKc : ¬ K c) (hlt : ∀ b, K b → b < w.heap.size)
    (ba bk bo : Nat) (a k : Int) (v0 : Value) (hba : Blk w ba [.int .i64 a]) (hbk : Blk w bk [.int .i64 k]) (hbo : Blk w bo [v0]) (hKa : K ba) (hKk : K bk) (hKo : K bo) (hne : ba ≠ bo) (hnk : bk ≠ bo) (ha : 0 ≤ a ∧ a ≤ 70000) (hkr : -9223372036854775808 ≤ k ∧ k ≤ 9223372036854775807) {x : List EntM} {N : Nat} (most : Nat) (hr : (listT a k).ReadsN μ.cells N fun y => y = x) (hN : N ≤ most) (hm0 : 0 < most) (hm9 : most ≤ 1000000) :
    Calls Try.prog 22 #[.pointer (some ⟨m, 0, none⟩), .int .i64 (most : Int), .func (.func f) #[] #[.pointer (some ⟨ba, 0, none⟩), .pointer (some ⟨bk, 0, none⟩), .pointer (some ⟨bo, 0, none⟩)]] w fun e w' =>
      e = .returned (.bool true) ∧ (∃ μ', MemAt w' m c μ' ∧ μ'.cells = μ.cells) ∧ Keeps (fun b => K b ∧ b ≠ bo) w w' ∧ ∃ g, Blk w' bo [g] ∧ EntV w' (fun b => b ≠ m ∧ b ≠ c ∧ ¬ K b ∧ b < w'.heap.size) g x := by
  obtain ⟨x', n, h1, h2, rfl⟩ := hr
  refine (whole15 hm hKm hKc hlt f #[.pointer (some ⟨ba, 0, none⟩), .pointer (some ⟨bk, 0, none⟩), .pointer (some ⟨bo, 0, none⟩)] hent (listT a k) h1 most (Nat.le_trans h2 hN) hm0 hm9 (fun w1 => Keeps (fun b => K b ∧ b ≠ bo) w w1 ∧ ∃ v, Blk w1 bo [v]) (fun r y w1 => ∃ g, Blk w1 bo [g] ∧ EntV w1 (fun b => b ≠ r ∧ b ≠ m ∧ b ≠ c ∧ ¬ K b ∧ b < w1.heap.size) g y) ⟨Keeps.refl _ _, v0, hbo⟩ ?_ ?_ ?_).mono ?_
  · rintro w1 w2 ⟨k1, v, hb⟩ k2
    exact ⟨k1.trans (k2.mono fun b hb => hb.1), v, hb.keep k2 hKo⟩
  · rintro r y w1 w2 hKr ⟨g, hb, he⟩ k2
    exact ⟨g, hb.keep k2 (fun e => hKr (e ▸ hKo)), (he.keep k2 (fun b hb => hb.1)).up fun b hb => ⟨hb.1, hb.2.1, hb.2.2.1, hb.2.2.2.1, Nat.lt_of_lt_of_le hb.2.2.2.2 k2.size⟩⟩
  · rintro w1 r s1 ⟨k1, v, hb⟩ hr1
    refine (hf w1 K r m c s1 ba bk bo a k v hr1 (hba.keep k1 ⟨hKa, hne⟩) (hbk.keep k1 ⟨hKk, hnk⟩) hb hKo ha hkr).mono ?_
    rintro e w2 ⟨rfl, h3, ⟨g, h4, h6⟩, h5⟩
    exact ⟨rfl, h3, ⟨k1.trans h5, _, h4⟩, g, h4, h6⟩
  · rintro e w' ⟨rfl, h3, ⟨h4, _⟩, ⟨r, _, g, h5, h6⟩, _⟩
    exact ⟨rfl, h3, h4, g, h5, h6.up fun b hb => ⟨hb.2.1, hb.2.2.1, hb.2.2.2.1, hb.2.2.2.2⟩⟩

theorem wpAnyH_S {P : Program} {md : Region.Mode} {ops : Array Oper} {Q : Exit → Act → World → Prop} {S1 S2 : World → Prop} (h : ∀ w, S2 w → S1 w) : ∀ (f : Nat) (L : Array Bool) (a : Act) (w : World), wpAnyH P md ops Q S2 f L a w → wpAnyH P md ops Q S1 f L a w
  | 0, _, _, _, k => k
  | f + 1, _, _, _, k => ⟨k.1, fun i hi => wpOp_mono (fun _ w' k' => ⟨h w' k'.1, wpAnyH_S h f _ _ w' k'.2⟩) (k.2 i hi)⟩
/-- within the statement's inner loop -/
structure LInn (w3 wk : World) (m c bA bK : Nat) (cs : List Int) (xa xm xr xi : Int) : Prop where
  mem : ∃ μ, MemAt wk m c μ ∧ μ.cells = cs
  keeps : Keeps (· < c) w3 wk
  blkA : Blk wk bA [.int .i64 xa]
  blkK : Blk wk bK [.int .i64 xm, .int .i64 xr, .int .i64 xi]
theorem LInn.below {w3 wk w' : World} {m c bA bK : Nat} {cs : List Int} {xa xm xr xi : Int} (h : LInn w3 wk m c bA bK cs xa xm xr xi) (k : Keeps (· < wk.heap.size) wk w') : LInn w3 w' m c bA bK cs xa xm xr xi := by
  obtain ⟨⟨μ, hm, hc⟩, h2, h3, h4⟩ := h
  exact ⟨⟨μ, hm.keep k hm.obj.lt hm.cells.lt, hc⟩, h2.trans (k.mono fun b hb => by have := hm.cells.lt; omega), h3.keep k h3.lt, h4.keep k h4.lt⟩

set_option maxRecDepth 100000 in
set_option maxHeartbeats 8000000 in
theorem lists_walk (rA : Option Addr) (rn rcap : Nat) (rc : List Int) (hru : ∀ x ∈ rc, U32 x) (A : Option Addr) (cap : Nat) (ls : List LstM) (most : Int) (hmo : -9223372036854775808 ≤ most ∧ most ≤ 9223372036854775807) (w : World)
    (hr : SlAt w (· < w.heap.size) 4 (.slice rA rn rcap) rn (rc.map (Value.int .u32))) (hv : ListsV w (· < w.heap.size) (.slice A ls.length cap) ls) :
    Calls Try.prog 6 #[.slice rA rn rcap, .slice A ls.length cap, .int .i64 most] w fun e w' => e = .returned (.bool true) ∧ Keeps (· < w.heap.size) w w' := by
  obtain ⟨A0, cap0, he, hd1, hd2⟩ := hr.form
  injection he with e1 _ e3
  subst e1 e3
  unfold maxLen at hd2
  have hrl : rc.length = 4 * rn := by have := hr.choose_spec.choose_spec.2.2.2.1; simp at this; omega
  have HG := hid (great15 rA rn rcap (by omega) A cap ls w hv)
  have HR := hid hr
  have HV := hid hv
  have HRL := hid hrl
  have HRU := hid hru
  have HF := hid (fun w => fixed15 w)
  clear hr hv hrl hru
  refine calls_hide fun R' hR' => ?_
  go_enter Try.func6, Try.ntmps6
  go_wp2_with fail
  refine HG.out.mono ?_
  rintro e w1 ⟨r, rfl, hgr, hk1⟩
  cases r with
  | true =>
    have Hk1 := hid hk1
    clear hk1
    clear hgr
    go_wp2_with fail
    refine (HF.out _).mono ?_
    rintro e w2 ⟨rfl, hk2⟩
    have hs1 := Hk1.out.size
    have hkk := Hk1.out.trans (hk2.mono fun b hb => by omega)
    have Hkk := hid hkk
    clear hkk
    clear hk2
    go_wp2_with fail
    exact hR'.out _ _ ⟨rfl, Hkk.out⟩
  | false =>
    obtain ⟨hls, hkey, hts⟩ := hgr rfl
    have hs1 := hk1.size
    have hH := ref15_hold rA rn rcap rc A cap ls hkey hls w1 ((HR.out.keep hk1 (fun b hb => hb)).mono (fun b hb => Nat.lt_of_lt_of_le hb hs1)) ((HV.out.keep hk1 (fun b hb => hb)).up (fun b hb => Nat.lt_of_lt_of_le hb hs1))
    have HKY := hid hkey
    have HTS := hid hts
    have Hk1 := hid hk1
    have HH := hid hH
    clear hk1 hH
    clear hgr hkey hts
    go_wp2_with fail
    refine HH.out.mono ?_
    rintro e w2 (⟨g, gc, ov, rfl, hM, hN2, hL2⟩ | ⟨rfl, _, hk2⟩)
    case inr =>
      have hkk := Hk1.out.trans (hk2.mono fun b hb => by omega)
      have hs2 := hkk.size
      have Hkk := hid hkk
      clear hkk
      clear hk2
      go_wp2_with fail
      refine (HF.out _).mono ?_
      rintro e w3 ⟨rfl, hk3⟩
      have hkf := Hkk.out.trans (hk3.mono fun b hb => by omega)
      have Hkf := hid hkf
      clear hkf
      clear hk3
      go_wp2_with fail
      exact hR'.out _ _ ⟨rfl, Hkf.out⟩
    have htot := HTS.out (may_small hM)
    obtain ⟨hl1, hl2, hl3⟩ := all_len HRL.out hM HKY.out hls htot
    have hu := all_u32 HRL.out HRU.out hM HKY.out hls htot
    have hdocs : (allC rn rc ls)[(cellsR ls).length]? = some ((rn : Int) + 1) := all_docs
    have hcpos : 1 ≤ (allC rn rc ls).length := by have := (List.getElem?_eq_some_iff.1 hdocs).1; omega
    have e9 : cellsR ls ++ makeL (cellsR ls).length rn rc (outP ls ls.length) = allC rn rc ls := rfl
    rw [e9] at hN2 ⊢
    have hol := outP_len (ls := ls) ls.length (Nat.le_refl _)
    obtain ⟨oA, oc, rfl, ho1, ho2⟩ := hL2.form
    unfold maxLen at ho2
    have hsl : SlAt w2 (· < w2.heap.size) 1 (.slice (some ⟨g, 0, none⟩) (allC rn rc ls).length gc) (allC rn rc ls).length ((allC rn rc ls).map (Value.int .u32)) := (ownB_slAt hN2.1).mono (fun b hb => hb.2)
    have hkk := Hk1.out.trans (hN2.2.mono fun b hb => by omega)
    have hrn := hM.1
    have HX := hid (fun (i : Nat) (l : LstM) (h : ls[i]? = some l) => all_tab (rc := rc) HRL.out h)
    have HRD := hid (fun (i : Nat) (l : LstM) (h : ls[i]? = some l) (mo : Int) hmo => all_reads HRL.out hM h mo hmo)
    have HOG := hid (fun (i : Nat) (l : LstM) (h : ls[i]? = some l) => outP_get h ls.length (List.getElem?_eq_some_iff.1 h).1 (Nat.le_refl _))
    have HME := hid (fun (i : Nat) (l : LstM) (h : ls[i]? = some l) => (out_may hM h).2.1)
    have hup : UpK ((outP ls ls.length).map LstM.key) := by
      have h0 := keys_up hM
      intro i a b ha hb
      rw [List.getElem?_map] at ha hb
      obtain ⟨x, hx, rfl⟩ := Option.map_eq_some_iff.1 ha
      obtain ⟨y, hy, rfl⟩ := Option.map_eq_some_iff.1 hb
      have hi := (List.getElem?_eq_some_iff.1 hx).1
      have hj := (List.getElem?_eq_some_iff.1 hy).1
      have h1 := outP_get (ls := ls) (List.getElem?_eq_getElem (show i < ls.length by omega)) ls.length (by omega) (Nat.le_refl _)
      have h2 := outP_get (ls := ls) (List.getElem?_eq_getElem (show i + 1 < ls.length by omega)) ls.length (by omega) (Nat.le_refl _)
      rw [hx] at h1; injection h1 with h1
      rw [hy] at h2; injection h2 with h2
      refine h0 i x.key y.key ?_ ?_
      · rw [List.getElem?_map, List.getElem?_eq_getElem (show i < ls.length by omega), h1]; rfl
      · rw [List.getElem?_map, List.getElem?_eq_getElem (show i + 1 < ls.length by omega), h2]; rfl
    generalize hat : (cellsR ls).length = at' at *
    generalize hcs : allC rn rc ls = cs at *
    have hcl : cs.length ≤ 65536 := by omega
    have HCN := hid (show ∀ x ∈ cs, U32 x from hu)
    have Hkk := hid hkk
    have Hsl := hid hsl
    have HL2 := hid hL2
    have Hup := hid hup
    have Hat := hid hat
    have Hcs := hid hcs
    have HM := hid hM
    clear hkk hsl hL2 hup hat hcs hM
    clear hN2 hu hdocs e9 HH Hk1 HG htot HTS
    generalize hout : outP ls ls.length = out at *
    have HOUT := hid hout
    clear hout
    go_wp2_with fail
    refine (of15 (some ⟨g, 0, none⟩) cs.length gc cs rfl hcpos hcl HCN.out w2 Hsl.out).mono ?_
    rintro e w3 ⟨rfl, ⟨μ3, hm3, hc3⟩, hk3⟩
    have hL3 := HL2.out.keep hk3 (fun b hb => hb)
    rw [hol] at hL3
    have hsl3 := Hsl.out.keep hk3 (fun b hb => hb)
    have hs2 := Hkk.out.size
    have hkk3 := Hkk.out.trans (hk3.mono fun b hb => by omega)
    have hz3 := hk3.size
    generalize hcc : w2.heap.size = c at *
    generalize hmm : c + 1 = m at *
    have hcm : c < m := by omega
    have hm3l := hm3.obj.lt
    have Hm3 := hid hm3
    have Hc3 := hid hc3
    have HL3 := hid hL3
    have Hsl3 := hid hsl3
    have Hkk3 := hid hkk3
    have Hcc := hid hcc
    clear hm3 hc3 hL3 hsl3 hkk3 hcc
    clear Hkk Hsl HL2 hk3 HCN
    go_wp2_with fail
    go_loopw [38] (fun iv wr => ∃ (i : Nat) (μ : MemS), iv = .int .i64 (i : Int) ∧ i ≤ ls.length ∧ m < wr.heap.size ∧ Hid (MemAt wr m c μ) ∧ Hid (μ.cells = cs) ∧ Hid (Keeps (· < c) w3 wr)) (fun iv _ => ls.length - (intOf iv).toNat)
    case atStart => exact ⟨0, μ3, rfl, Nat.zero_le _, hm3l, Hm3, Hc3, hid (Keeps.refl _ _)⟩
    case round =>
      obtain ⟨i, μ, rfl, hi, hmw, HMr, HCr, HKr⟩ := hrel
      by_cases hlt : i < ls.length
      · have hltI : (i : Int) < (ls.length : Int) := by omega
        have hi0 : (0 : Int) ≤ (i : Int) := Int.natCast_nonneg i
        have hgl : ls[i]? = some ls[i] := List.getElem?_eq_getElem hlt
        generalize ls[i] = l at hgl
        have hgo := HOG.out i l hgl
        have hLr := HL3.out.keep HKr.out (fun b hb => hb)
        have hsr := Hsl3.out.keep HKr.out (fun b hb => hb)
        obtain ⟨b, off, cp, ev, e1, hKb, x0, x1, x2, hev⟩ := ListsV.get (by rw [← hol] at hLr; exact hLr) hgo
        rw [hol] at e1
        injection e1 with e1 _ e2
        subst e1 e2
        obtain ⟨eA, ec, rfl, hp1, hp2⟩ := hev.form
        have hxx := HX.out i l hgl
        have hadr := hl3 i
        have hmE := HME.out i l hgl
        have hrd := HRD.out i l hgl
        generalize addrL rn ls i = ad at hxx hadr hrd
        have hwh := ref15_where (some ⟨g, 0, none⟩) cs.length gc cs rfl hcl at' rA rn rcap hrn (some ⟨b, off, none⟩) oc out (by omega) Hup.out i _ hgo (ad : Int) hxx.2 ⟨by omega, by omega⟩ wr (hsr.mono fun b hb => by omega) (by rw [hol]; exact hLr.up fun b hb => by omega)
        rw [hol] at hwh
        have HWH := hid hwh
        have HE := hid hmE
        have HRDi := hid hrd
        have HEV := hid hev
        have HX2 := hid x2
        have HKB := hid hKb
        clear hwh hxx hmE hrd hgo hLr hsr hev x1 x2 hKb
        go_wp2_with fail
        refine HWH.out.mono ?_
        rintro e w4 ⟨rfl, rfl⟩
        clear x0
        have hI0 : LInn w3 ((wr.alloc (.cells #[.int .i64 (ad : Int)] 3)).alloc (.cells #[.int .i64 most, .int .i64 (rn : Int), .int .i64 (i : Int)] 3)) m c wr.heap.size (wr.heap.size + 1) cs ad most rn i := by
          have k2 : Keeps (· < wr.heap.size) wr ((wr.alloc (.cells #[.int .i64 (ad : Int)] 3)).alloc (.cells #[.int .i64 most, .int .i64 (rn : Int), .int .i64 (i : Int)] 3)) := ((Keeps.refl _ _).alloc (fun b hb => hb) _).alloc (fun b hb => by simp; omega) _
          exact ⟨⟨μ, HMr.out.keep k2 hmw HMr.out.cells.lt, HCr.out⟩, HKr.out.trans (k2.mono fun b hb => by omega), (Blk.new _ _ _).alloc _, Blk.new' _ _ _ (by simp)⟩
        obtain ⟨bA, hbA⟩ : ∃ bA, bA = wr.heap.size := ⟨_, rfl⟩
        rw [← hbA] at hI0
        have hbm : m < bA := by omega
        have hI0s : bA + 2 = ((wr.alloc (.cells #[.int .i64 (ad : Int)] 3)).alloc (.cells #[.int .i64 most, .int .i64 (rn : Int), .int .i64 (i : Int)] 3)).heap.size := by simp; omega
        go_wp2_with fail
        rw [← hbA]
        generalize ((wr.alloc (.cells #[.int .i64 (ad : Int)] 3)).alloc (.cells #[.int .i64 most, .int .i64 (rn : Int), .int .i64 (i : Int)] 3)) = W0 at *
        generalize hbK : bA + 1 = bK at *
        have HBA := hid hbA
        have HI0 := hid hI0
        clear hbA hI0 HMr HCr HKr
        go_loopw [57] (fun tv wk => ∃ t : Nat, tv = .int .i64 (t : Int) ∧ t ≤ 3 ∧ bK < wk.heap.size ∧ Hid (LInn w3 wk m c bA bK cs ad most rn i)) (fun tv _ => 3 - (intOf tv).toNat)
        case atStart => exact ⟨0, rfl, by decide, by omega, HI0⟩
        case round =>
          rename World => wk
          obtain ⟨t, rfl, ht, hbk, HI⟩ := hrel
          by_cases ht3 : t < 3
          · have ht3I : (t : Int) < 3 := by omega
            have ht0 : (0 : Int) ≤ (t : Int) := Int.natCast_nonneg t
            obtain ⟨kk, hkk, hkr⟩ : ∃ kk : Int, ([.int .i64 most, .int .i64 (rn : Int), .int .i64 (i : Int)] : List Value)[t]? = some (.int .i64 kk) ∧ (-9223372036854775808 ≤ kk ∧ kk ≤ 9223372036854775807) := by
              rcases (by omega : t = 0 ∨ t = 1 ∨ t = 2) with rfl | rfl | rfl
              · exact ⟨_, rfl, hmo⟩
              · exact ⟨_, rfl, by omega, by omega⟩
              · exact ⟨_, rfl, by omega, by omega⟩
            have hck := (HI.out.blkK.cell t).trans hkk
            clear hkk
            go_upto_region 17 with fail
            refine wp_gen (fun W => Blk W wk.heap.size [.int .i64 kk] ∧ Blk W (wk.heap.size + 1) [.slice none 0 0] ∧ LInn w3 W m c bA bK cs ad most rn i ∧ wk.heap.size + 2 = W.heap.size) ⟨(Blk.new _ _ _).alloc _, Blk.new' _ _ _ (by simp), HI.out.below (((Keeps.refl _ _).alloc (fun b hb => hb) _).alloc (fun b hb => by simp; omega) _), by simp⟩ ?_
            rintro W ⟨hBk, hBg, hIW, hzW⟩
            generalize hbk9 : wk.heap.size = bk at *
            generalize hbg9 : bk + 1 = bg at *
            have HZK := hid hbk9
            clear hbk9 hck HI
            -- what stands where in the lists
            have hLW := HL3.out.keep hIW.keeps (fun b hb => hb)
            have hgo := HOG.out i l hgl
            obtain ⟨b', off', cp', ev', e1, hKb', x0, x1, x2, hev'⟩ := ListsV.get (by rw [← hol] at hLW; exact hLW) hgo
            rw [hol] at e1
            injection e1 with e1 _ e2
            injection e1 with e1
            injection e1 with e1 e3 _
            subst e1 e2 e3
            obtain ⟨fA, fc, rfl, hq1, hq2⟩ := hev'.form
            have hbd := Keeps.drew (Keeps.refl (· < W.heap.size) W)
            obtain ⟨⟨μW, hmW, hcW⟩, hkW, hAW, hKW⟩ := hIW
            have hrdk := HRDi.out kk hkr
            rw [← hcW] at hrdk
            have hwl := whole_list2 (f := 25) (fun _ _ => by rfl) lists_clo (w := W.drew) (hmW.keep hbd hmW.obj.lt hmW.cells.lt) (fun b => b ≠ m ∧ b ≠ c ∧ b < W.heap.size) (fun h => h.1 rfl) (fun h => h.2.1 rfl) (fun b h => h.2.2) bA bk bg (ad : Int) kk (.slice none 0 0) hAW.drew hBk.drew hBg.drew ⟨by omega, by omega, by omega⟩ ⟨by omega, by omega, by omega⟩ ⟨by omega, by omega, by omega⟩ (by omega) (by omega) ⟨by omega, by omega⟩ hkr 70000 hrdk (by decide) (by decide) (by decide)
            obtain ⟨ne, hne⟩ : ∃ ne, ne = l.ents.length := ⟨_, rfl⟩
            rw [← hne] at x2 hev' hq1
            obtain ⟨nb, hnb⟩ : ∃ nb, nb = (belowL l.ents kk).length := ⟨_, rfl⟩
            have HW7 := hid (show Calls Try.prog 22 #[.pointer (some ⟨m, 0, none⟩), .int .i64 70000, .func (.func 25) #[] #[.pointer (some ⟨bA, 0, none⟩), .pointer (some ⟨bk, 0, none⟩), .pointer (some ⟨bg, 0, none⟩)]] W.drew fun e w7 => e = .returned (.bool true) ∧ ∃ gA gcap, Hid (LInn w3 w7 m c bA bK cs ad most rn i ∧ EntV w7 (· < w7.heap.size) (.slice gA nb gcap) (belowL l.ents kk) ∧ W.heap.size ≤ w7.heap.size) ∧ w7.cell? ⟨bg, 0, none⟩ = some (.slice gA nb gcap) ∧ w7.cell? ⟨bk, 0, none⟩ = some (.int .i64 kk) ∧ w7.cell? ⟨b, off + i * 3 + 2, none⟩ = some (.slice fA ne fc) from by
              refine hwl.mono ?_
              rintro e w7 ⟨rfl, ⟨μ7, hm7, hc7⟩, hk7, g7, hB7, hE7⟩
              obtain ⟨gA, gcap, rfl, -, -⟩ := hE7.form
              rw [← hnb] at hB7 hE7
              have hz7 := hk7.size
              have kc : Keeps (· < c) W w7 := (Keeps.refl _ _).drew.trans (hk7.mono fun b hb => ⟨⟨by omega, by omega, by omega⟩, by omega⟩)
              refine ⟨rfl, gA, gcap, hid ⟨⟨⟨μ7, hm7, hc7.trans hcW⟩, hkW.trans kc, hAW.drew.keep hk7 ⟨⟨by omega, by omega, by omega⟩, by omega⟩, hKW.drew.keep hk7 ⟨⟨by omega, by omega, by omega⟩, by omega⟩⟩, hE7.up (fun b hb => hb.2.2.2), hz7⟩, hB7.cell 0, (hBk.drew.keep hk7 ⟨⟨by omega, by omega, by omega⟩, by omega⟩).cell 0, (World.cell?_of_block (kc.block b hKb')).trans x2⟩)
            have HB8 := hid (show ∀ (w7 : World) (gA : Option Addr) (gcap : Nat), Hid (LInn w3 w7 m c bA bK cs ad most rn i ∧ EntV w7 (· < w7.heap.size) (.slice gA nb gcap) (belowL l.ents kk) ∧ W.heap.size ≤ w7.heap.size) → w7.cell? ⟨bg, 0, none⟩ = some (.slice gA nb gcap) → w7.cell? ⟨bk, 0, none⟩ = some (.int .i64 kk) → w7.cell? ⟨b, off + i * 3 + 2, none⟩ = some (.slice fA ne fc) →
                Calls Try.prog 26 #[.slice fA ne fc, .int .i64 kk] w7 fun e w8 => ∃ A2 c2, e = .returned (.slice A2 nb c2) ∧ Hid (LInn w3 w8 m c bA bK cs ad most rn i ∧ EntV w8 (· < w8.heap.size) (.slice gA nb gcap) (belowL l.ents kk) ∧ EntV w8 (· < w8.heap.size) (.slice A2 nb c2) (belowL l.ents kk) ∧ W.heap.size ≤ w8.heap.size) ∧ w8.cell? ⟨bg, 0, none⟩ = some (.slice gA nb gcap) ∧ w8.cell? ⟨bk, 0, none⟩ = some (.int .i64 kk) ∧ w8.cell? ⟨b, off + i * 3 + 2, none⟩ = some (.slice fA ne fc) from by
              intro w7 gA gcap ⟨hI7, hE7, hz7⟩ q0 q1 q2
              have hL7 := HL3.out.keep hI7.keeps (fun b hb => hb)
              obtain ⟨b2, off2, cp2, ev2, e1, _, _, _, y2, hev7⟩ := ListsV.get (by rw [← hol] at hL7; exact hL7) hgo
              rw [hol] at e1
              injection e1 with e1 _ e2
              injection e1 with e1
              injection e1 with e1 e3 _
              subst e1 e2 e3
              rw [q2] at y2
              injection y2 with y2
              subst y2
              · have hbl := ref15_below fA fc l.ents HE.out.1 kk w7 (by rw [← hne]; exact hev7.up fun b hb => by omega)
                rw [← hne] at hbl
                refine hbl.mono ?_
                rintro e w8 ⟨g8, rfl, hE8, hk8⟩
                obtain ⟨A2, c2, rfl, -, -⟩ := hE8.form
                rw [← hnb] at hE8 ⊢
                have hz8 := hk8.size
                exact ⟨A2, c2, rfl, hid ⟨hI7.below hk8, (hE7.keep hk8 (fun b hb => hb)).up (fun b hb => Nat.lt_of_lt_of_le hb hz8), hE8.up (fun b hb => by omega), by omega⟩, (World.cell?_of_block (hk8.block bg (show bg < w7.heap.size by omega))).trans q0, (World.cell?_of_block (hk8.block bk (show bk < w7.heap.size by omega))).trans q1, (World.cell?_of_block (hk8.block b (show b < w7.heap.size by omega))).trans q2⟩
              )
            have HSM := hid (show ∀ (w8 : World) (gA : Option Addr) (gcap : Nat) (A2 : Option Addr) (c2 : Nat), Hid (LInn w3 w8 m c bA bK cs ad most rn i ∧ EntV w8 (· < w8.heap.size) (.slice gA nb gcap) (belowL l.ents kk) ∧ EntV w8 (· < w8.heap.size) (.slice A2 nb c2) (belowL l.ents kk) ∧ W.heap.size ≤ w8.heap.size) →
                Calls Try.prog 23 #[.slice gA nb gcap, .slice A2 nb c2] w8 fun e w9 => e = .returned (.bool true) ∧ ∃ n, w8.drewN n = w9 from by
              intro w8 gA gcap A2 c2 ⟨_, h1, h2, _⟩
              exact same13 _ _ _ _ _ w8 h1 h2)
            have hck := hBk.cell 0
            simp only [List.getElem?_cons_zero] at hck
            have hlI : (i : Int) < (ls.length : Int) := hltI
            clear hwl hrdk hmW hcW hkW hAW hKW hBk hBg hbd x0 x1 hev' hgo hLW hKb' hnb hne hq1 hq2 hp1 hp2
            refine wp_region_held_drew (S := fun _ => True) (by kernel_rfl) trivial (fun hHeld => ?_)
            refine wpAnyH_take (i := 0) (oi := { dst := some 61, op := Op.move (Operand.tmp 11), type := 35, pos := "law.go:115", after := #[], guard := none }) (v := ?va0) rfl (by kernel_rfl) (by kernel_rfl) (by kernel_rfl) (fun _ _ _ h => h) (Or.inl ⟨by rfl, ?ya0⟩) (by assumption) ?qa0
            case ya0 => (intro w hSw; (try dsimp only at hSw); (try obtain ⟨s0, s1, s2⟩ := hSw); go_simp; try with_reducible rfl)
            (try simp only [Act.put, List.setIfInBounds_toArray, List.set_cons_zero, List.set_cons_succ])
            refine wpAnyH_take (i := 1) (oi := { dst := some 62, op := Op.makeFunc (Fn.func 25) #[] #[Operand.tmp 13, Operand.tmp 15, Operand.tmp 16], type := 44, pos := "law.go:115", after := #[], guard := none }) (v := ?va1) rfl (by kernel_rfl) (by kernel_rfl) (by kernel_rfl) (fun _ _ _ h => h) (Or.inl ⟨by rfl, ?ya1⟩) (by assumption) ?qa1
            case ya1 => (intro w hSw; (try dsimp only at hSw); (try obtain ⟨s0, s1, s2⟩ := hSw); go_simp; try with_reducible rfl)
            (try simp only [Act.put, List.setIfInBounds_toArray, List.set_cons_zero, List.set_cons_succ])
            refine wpAnyH_ready (rs := [2]) (by kernel_rfl) (by simp) ?_
            refine AllReadyH.cons (o := { dst := some 63, op := Op.call { callee := Callee.value (Operand.func 22), args := #[Operand.tmp 61, Operand.const (Value.int IntKind.i64 70000), Operand.tmp 62], argTypes := #[35, 3, 44] }, type := 4, pos := "law.go:115", after := #[{ on := 0, ground := Ground.data }, { on := 1, ground := Ground.data }], guard := none }) rfl (fun K hK => ?_) AllReadyH.nil
            go_simp
            refine HW7.out.mono ?_
            rintro e w7 ⟨rfl, gA, gcap, HS7, q0, q1, q2⟩
            go_wp2_with fail
            refine hK.out _ _ trivial (fun _ => ?_)
            clear hK K hHeld
            (try simp only [Act.put, List.setIfInBounds_toArray, List.set_cons_zero, List.set_cons_succ])
            refine wpAnyH_S (S2 := fun w' => w'.cell? ⟨bg, 0, none⟩ = some (.slice gA nb gcap) ∧ w'.cell? ⟨bk, 0, none⟩ = some (.int .i64 kk) ∧ w'.cell? ⟨b, off + i * 3 + 2, none⟩ = some (.slice fA ne fc)) (fun _ _ => trivial) _ _ _ _ ?_
            have hHeld := And.intro q0 (And.intro q1 q2)
            refine wpAnyH_take (i := 3) (oi := { dst := some 64, op := Op.unOp UnOp.not 4 (Operand.tmp 63), type := 4, pos := "law.go:115", after := #[{ on := 2, ground := Ground.data }], guard := none }) (v := .bool false) rfl (by kernel_rfl) (by kernel_rfl) (by kernel_rfl) (fun _ _ _ h => h) (Or.inl ⟨by rfl, ?yb3⟩) (by assumption) ?qb3
            case yb3 => (intro w hSw; (try dsimp only at hSw); (try obtain ⟨s0, s1, s2⟩ := hSw); go_simp; try with_reducible rfl)
            (try simp only [Act.put, List.setIfInBounds_toArray, List.set_cons_zero, List.set_cons_succ])
            refine wpAnyH_take (i := 4) (oi := { dst := some 65, op := Op.move (Operand.tmp 64), type := 4, pos := "law.go:115", after := #[{ on := 3, ground := Ground.data }, { on := 2, ground := Ground.chain }], guard := none }) (v := ?vb4) rfl (by kernel_rfl) (by kernel_rfl) (by kernel_rfl) (fun _ _ _ h => h) (Or.inl ⟨by rfl, ?yb4⟩) (by assumption) ?qb4
            case yb4 => (intro w hSw; (try dsimp only at hSw); (try obtain ⟨s0, s1, s2⟩ := hSw); go_simp; try with_reducible rfl)
            (try simp only [Act.put, List.setIfInBounds_toArray, List.set_cons_zero, List.set_cons_succ])
            refine wpAnyH_take (i := 5) (oi := { dst := some 66, op := Op.load 37 (Operand.tmp 16), type := 37, pos := "law.go:115", after := #[{ on := 4, ground := Ground.guard }], guard := some (4, false) }) (v := (.slice gA nb gcap)) rfl (by kernel_rfl) (by kernel_rfl) (by kernel_rfl) (fun _ _ _ h => h) (Or.inl ⟨by rfl, ?yb5⟩) (by assumption) ?qb5
            case yb5 => (intro w hSw; (try dsimp only at hSw); (try obtain ⟨s0, s1, s2⟩ := hSw); go_simp; try with_reducible rfl)
            (try simp only [Act.put, List.setIfInBounds_toArray, List.set_cons_zero, List.set_cons_succ])
            refine wpAnyH_take (i := 6) (oi := { dst := some 67, op := Op.move (Operand.tmp 8), type := 30, pos := "law.go:115", after := #[{ on := 4, ground := Ground.guard }], guard := some (4, false) }) (v := ?vb6) rfl (by kernel_rfl) (by kernel_rfl) (by kernel_rfl) (fun _ _ _ h => h) (Or.inl ⟨by rfl, ?yb6⟩) (by assumption) ?qb6
            case yb6 => (intro w hSw; (try dsimp only at hSw); (try obtain ⟨s0, s1, s2⟩ := hSw); go_simp; try with_reducible rfl)
            (try simp only [Act.put, List.setIfInBounds_toArray, List.set_cons_zero, List.set_cons_succ])
            refine wpAnyH_take (i := 7) (oi := { dst := some 68, op := Op.move (Operand.tmp 12), type := 3, pos := "law.go:115", after := #[{ on := 4, ground := Ground.guard }], guard := some (4, false) }) (v := ?vb7) rfl (by kernel_rfl) (by kernel_rfl) (by kernel_rfl) (fun _ _ _ h => h) (Or.inl ⟨by rfl, ?yb7⟩) (by assumption) ?qb7
            case yb7 => (intro w hSw; (try dsimp only at hSw); (try obtain ⟨s0, s1, s2⟩ := hSw); go_simp; try with_reducible rfl)
            (try simp only [Act.put, List.setIfInBounds_toArray, List.set_cons_zero, List.set_cons_succ])
            refine wpAnyH_take (i := 8) (oi := { dst := some 69, op := Op.indexAddr 30 (Operand.tmp 67) (Operand.tmp 68), type := 0, pos := "law.go:115", after := #[{ on := 6, ground := Ground.data }, { on := 7, ground := Ground.data }, { on := 4, ground := Ground.guard }], guard := some (4, false) }) (v := (.pointer (some ⟨b, off + i * 3, none⟩))) rfl (by kernel_rfl) (by kernel_rfl) (by kernel_rfl) (fun _ _ _ h => h) (Or.inl ⟨by rfl, ?yb8⟩) (by assumption) ?qb8
            case yb8 => (intro w hSw; (try dsimp only at hSw); (try obtain ⟨s0, s1, s2⟩ := hSw); go_simp; try with_reducible rfl)
            (try simp only [Act.put, List.setIfInBounds_toArray, List.set_cons_zero, List.set_cons_succ])
            refine wpAnyH_take (i := 9) (oi := { dst := some 70, op := Op.fieldAddr 42 (Operand.tmp 69) 2, type := 0, pos := "law.go:115", after := #[{ on := 8, ground := Ground.data }, { on := 4, ground := Ground.guard }], guard := some (4, false) }) (v := (.pointer (some ⟨b, off + i * 3 + 2, none⟩))) rfl (by kernel_rfl) (by kernel_rfl) (by kernel_rfl) (fun _ _ _ h => h) (Or.inl ⟨by rfl, ?yb9⟩) (by assumption) ?qb9
            case yb9 => (intro w hSw; (try dsimp only at hSw); (try obtain ⟨s0, s1, s2⟩ := hSw); go_simp; try with_reducible rfl)
            (try simp only [Act.put, List.setIfInBounds_toArray, List.set_cons_zero, List.set_cons_succ])
            refine wpAnyH_take (i := 10) (oi := { dst := some 71, op := Op.load 37 (Operand.tmp 70), type := 37, pos := "law.go:115", after := #[{ on := 9, ground := Ground.data }, { on := 4, ground := Ground.guard }], guard := some (4, false) }) (v := (.slice fA ne fc)) rfl (by kernel_rfl) (by kernel_rfl) (by kernel_rfl) (fun _ _ _ h => h) (Or.inl ⟨by rfl, ?yb10⟩) (by assumption) ?qb10
            case yb10 => (intro w hSw; (try dsimp only at hSw); (try obtain ⟨s0, s1, s2⟩ := hSw); go_simp; try with_reducible rfl)
            (try simp only [Act.put, List.setIfInBounds_toArray, List.set_cons_zero, List.set_cons_succ])
            refine wpAnyH_take (i := 11) (oi := { dst := some 72, op := Op.load 3 (Operand.tmp 15), type := 3, pos := "law.go:115", after := #[{ on := 4, ground := Ground.guard }], guard := some (4, false) }) (v := (.int .i64 kk)) rfl (by kernel_rfl) (by kernel_rfl) (by kernel_rfl) (fun _ _ _ h => h) (Or.inl ⟨by rfl, ?yb11⟩) (by assumption) ?qb11
            case yb11 => (intro w hSw; (try dsimp only at hSw); (try obtain ⟨s0, s1, s2⟩ := hSw); go_simp; try with_reducible rfl)
            (try simp only [Act.put, List.setIfInBounds_toArray, List.set_cons_zero, List.set_cons_succ])
            refine wpAnyH_ready (rs := [12]) (by kernel_rfl) (by simp) ?_
            refine AllReadyH.cons (o := { dst := some 73, op := Op.call { callee := Callee.value (Operand.func 26), args := #[Operand.tmp 71, Operand.tmp 72], argTypes := #[37, 3] }, type := 37, pos := "law.go:115", after := #[{ on := 10, ground := Ground.data }, { on := 11, ground := Ground.data }, { on := 4, ground := Ground.chain }, { on := 4, ground := Ground.guard }], guard := some (4, false) }) rfl (fun K hK => ?_) AllReadyH.nil
            go_simp
            refine (HB8.out _ gA gcap HS7 q0 q1 q2).mono ?_
            rintro e w8 ⟨A2, c2, rfl, HS8, p0, p1, p2⟩
            go_wp2_with fail
            refine hK.out _ _ ⟨p0, p1, p2⟩ (fun hHeld => ?_)
            clear hK K
            (try simp only [Act.put, List.setIfInBounds_toArray, List.set_cons_zero, List.set_cons_succ])
            refine wpAnyH_ready (rs := [13]) (by kernel_rfl) (by simp) ?_
            refine AllReadyH.cons (o := { dst := some 74, op := Op.call { callee := Callee.value (Operand.func 23), args := #[Operand.tmp 66, Operand.tmp 73], argTypes := #[37, 37] }, type := 4, pos := "law.go:115", after := #[{ on := 5, ground := Ground.data }, { on := 12, ground := Ground.data }, { on := 12, ground := Ground.chain }, { on := 4, ground := Ground.guard }], guard := some (4, false) }) rfl (fun K hK => ?_) AllReadyH.nil
            go_simp
            refine (HSM.out _ gA gcap A2 c2 HS8).mono ?_
            rintro e w9 ⟨rfl, nd, rfl⟩
            go_wp2_with fail
            refine hK.out _ _ ⟨p0, p1, p2⟩ (fun hHeld => ?_)
            clear hK K
            (try simp only [Act.put, List.setIfInBounds_toArray, List.set_cons_zero, List.set_cons_succ])
            refine wpAnyH_take (i := 14) (oi := { dst := some 75, op := Op.unOp UnOp.not 4 (Operand.tmp 74), type := 4, pos := "law.go:115", after := #[{ on := 13, ground := Ground.data }, { on := 4, ground := Ground.guard }], guard := some (4, false) }) (v := .bool false) rfl (by kernel_rfl) (by kernel_rfl) (by kernel_rfl) (fun _ _ _ h => h) (Or.inl ⟨by rfl, ?yb14⟩) (by assumption) ?qb14
            case yb14 => (intro w hSw; (try dsimp only at hSw); (try obtain ⟨s0, s1, s2⟩ := hSw); go_simp; try with_reducible rfl)
            (try simp only [Act.put, List.setIfInBounds_toArray, List.set_cons_zero, List.set_cons_succ])
            refine wpAnyH_take (i := 15) (oi := { dst := some 76, op := Op.pick (Operand.tmp 65) (Operand.const (Value.bool true)) (Operand.tmp 75), type := 4, pos := "law.go:115", after := #[{ on := 4, ground := Ground.data }, { on := 14, ground := Ground.data }], guard := none }) (v := .bool false) rfl (by kernel_rfl) (by kernel_rfl) (by kernel_rfl) (fun _ _ _ h => h) (Or.inl ⟨by rfl, ?yb15⟩) (by assumption) ?qb15
            case yb15 => (intro w hSw; (try dsimp only at hSw); (try obtain ⟨s0, s1, s2⟩ := hSw); go_simp; try with_reducible rfl)
            (try simp only [Act.put, List.setIfInBounds_toArray, List.set_cons_zero, List.set_cons_succ])
            refine wpAnyH_done (by kernel_rfl) ?_ _
            all_goals
              have hIf := HS8.out.1.below ((Keeps.refl _ _).drewN nd)
              have hzf := HS8.out.2.2.2
              have hzf2 : (w8.drewN nd).heap.size = w8.heap.size := rfl
              have HIf := hid hIf
              clear hIf
              clear HS7 HS8 HW7 HB8 HSM q0 q1 q2 p0 p1 p2 x2 hck
              go_wp2_with fail
              go_roundw
              case rel => exact ⟨t + 1, by go_num, by omega, by omega, HIf⟩
              case measure => first | (simp [intOf]; done) | (simp [intOf]; omega)
          · obtain rfl : t = 3 := by omega
            obtain ⟨⟨μ4, hm4, hc4⟩, hk4, _, _⟩ := HI.out
            have Hm4 := hid hm4
            have Hc4 := hid hc4
            have Hk4 := hid hk4
            clear hm4 hc4 hk4
            go_wp2_with fail
            go_roundw
            case rel => exact ⟨i + 1, μ4, by go_num, hlt, by omega, Hm4, Hc4, Hk4⟩
            case measure => first | (simp [intOf]; done) | (simp [intOf]; omega)
      · obtain rfl : i = ls.length := by omega
        have hltI : ¬ (ls.length : Int) < (ls.length : Int) := by omega
        go_wp2_with fail
        refine (HF.out _).mono ?_
        rintro e wb ⟨rfl, hkb⟩
        have hmal := HMr.out.obj.lt
        have hcal := HMr.out.cells.lt
        have hmb := HMr.out.keep hkb hmal hcal
        have hkwb := HKr.out.trans (hkb.mono fun b hb => by omega)
        have hSb := Hsl3.out.keep hkwb (fun b hb => hb)
        have hkf := Hkk3.out.trans (hkwb.mono fun b hb => by omega)
        have hzb := hkb.size
        have HV3 := hid (mem_cells hmb)
        have hcb := HCr.out
        have HSM := hid (show ∀ we, Blk we wb.heap.size (μ.cells.map (Value.int .u32)) → Keeps (· < wb.heap.size) wb we → Calls Try.prog 27 #[.slice (some ⟨wb.heap.size, 0, none⟩) μ.cells.length μ.cells.length, .slice (some ⟨g, 0, none⟩) cs.length gc] we fun e w' => e = .returned (.bool true) ∧ ∃ n, we.drewN n = w' from by
          intro we hb hk
          have hx : SlAt we (fun _ => True) 1 (.slice (some ⟨wb.heap.size, 0, none⟩) μ.cells.length μ.cells.length) μ.cells.length (μ.cells.map (Value.int .u32)) := SlAt.of_blkS hb trivial (by simp) (by have := hmb.small; unfold maxLen; omega)
          have hy : SlAt we (fun _ => True) 1 (.slice (some ⟨g, 0, none⟩) cs.length gc) cs.length (cs.map (Value.int .u32)) := (hSb.keep hk (show ∀ b, b < c → b < wb.heap.size by intro b hb; omega)).mono (fun _ _ => trivial)
          refine (same_any hx hy).mono ?_
          rintro e w' ⟨rfl, h⟩
          exact ⟨by rw [decide_eq_true hcb], h⟩)
        have Hkf := hid hkf
        clear hkf
        clear hkb hmb hkwb hSb hcb HMr HCr HKr Hsl3 HL3 Hkk3
        go_wp2_with fail
        refine HV3.out.mono ?_
        rintro e wd ⟨rfl, hBd, hkd⟩
        have HKd := hid hkd
        go_wp2_with fail
        refine (HSM.out wd hBd hkd).mono ?_
        rintro e we ⟨rfl, nd, rfl⟩
        have hfin := (Hkf.out.trans (HKd.out.mono fun b hb => by omega)).drewN nd
        have Hfin := hid hfin
        clear hfin
        clear hBd hkd
        go_wp2_with fail
        exact hR'.out _ _ ⟨rfl, Hfin.out⟩
end Go.Proofs.Ytbmgmjfpoepgpaa
