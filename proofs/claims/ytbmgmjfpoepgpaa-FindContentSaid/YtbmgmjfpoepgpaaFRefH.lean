/- Contract of a reference: cells with records, and an image. -/
import Derived.Test.YtbmgmjfpoepgpaaFRefG
namespace Go.Proofs.Ytbmgmjfpoepgpaa
open Go.RowKit

theorem Try.infoLst : (Try.prog.info? 42).map (fun i => (i.zero, i.size, i.bytes)) = some (some (.agg #[.string ⟨#[]⟩, .int .i64 0, .slice none 0 0]), 3, 48) := by kernel_rfl
theorem ownB_slAtS {w : World} {B : Nat} {E : TypeId} {n sz : Nat} {v : Value} {xs : List Value} (h : w.ownsRow B E sz v n xs) : SlAt w (fun b => B ≤ b ∧ b < w.heap.size) sz v n xs := by
  have hl := h.1
  rcases h.2 with ⟨h1, h2⟩ | ⟨b, cap, cur, h1, h0, h3, h4, h5, h6, h7⟩
  · exact ⟨none, 0, by rw [h1, h2], by omega, Nat.zero_le _, hl, fun hn => by omega⟩
  · refine ⟨some ⟨b, 0, none⟩, cap, h1, h4, h5, hl, fun hn => ⟨b, 0, rfl, ownB_lt h (by rw [h1]; rfl), fun j u hu => ?_⟩⟩
    have := h.cells (g := b) (by rw [h1]; rfl) j u hu
    have ea : (⟨b, 0, none⟩ : Addr).add j = ⟨b, j, none⟩ := by unfold Addr.add; split <;> simp_all
    rw [Nat.zero_add, ← ea]; exact this

theorem blk_grown {w w1 : World} {b : Nat} {xs : List Value} {o : Option Nat} (h : Blk w b xs) (hg : w.grownBy w1 o) (hne : o ≠ some b) : Blk w1 b xs :=
  h.keep (K := fun x => x < w.heap.size ∧ some x ≠ o) ⟨hg.os, hg.tape, hg.output, hg.size, fun x hx => hg.block x hx.1 hx.2⟩ ⟨h.lt, fun e => hne e.symm⟩
theorem bodyL_len {rn : Nat} {ls : List LstM} (h : ∀ l ∈ ls, MayE l.ents) : (bodyL ls).length ≤ 12402 * ls.length := by
  induction ls with
  | nil => exact Nat.le_refl _
  | cons l ls ih =>
    have h1 := encL_len (h l (by simp))
    have h2 := ih (fun x hx => h x (by simp [hx]))
    have e : bodyL (l :: ls) = encL l.ents ++ bodyL ls := rfl
    rw [e, List.length_append, List.length_cons]
    omega
theorem makeL_len {at' rn : Nat} {rc : List Int} {ls : List LstM} (h : MayL rn ls) (hrc : rc.length = 4 * rn) : (makeL at' rn rc ls).length ≤ 8000000 := by
  have h1 := bodyL_len (rn := rn) (ls := ls) (fun l hl => by
    obtain ⟨i, hi, rfl⟩ := List.getElem_of_mem hl
    exact (h.2.2 i _ (List.getElem?_eq_getElem hi)).2.2.2.2.1)
  have h2 := tabL_len (base := baseL at' rn ls) (ls := ls) ls.length (Nat.le_refl _)
  have h3 := h.1
  have h4 := h.2.1
  unfold makeL
  simp
  omega
theorem results_tmp4 {fn : Func} {t u v x : Tmp} (h : fn.results = #[.tmp t, .tmp u, .tmp v, .tmp x]) (tmps : Array Value) (P : Program) (w : World) :
    (results fn tmps).run P w = .ok (.tuple #[tmps.getD t undef, tmps.getD u undef, tmps.getD v undef, tmps.getD x undef]) w := by
  simp [results, h]
theorem own_newsS {w : World} {B E n sz : Nat} {g : Nat} {cap : Nat} {xs : List Value} (h : w.ownsRow B E sz (.slice (some ⟨g, 0, none⟩) n cap) n xs) : ∀ j u, xs[j]? = some u → w.cell? ((⟨g, 0, none⟩ : Addr).add j) = some u := fun j u hu => h.cells (g := g) rfl j u hu
theorem ownB_posS {w : World} {B E n sz : Nat} {v : Value} {xs : List Value} (h : w.ownsRow B E sz v n xs) (hn : 0 < n) : ∃ g cap, v = .slice (some ⟨g, 0, none⟩) n cap := by
  rcases h.2 with ⟨_, h2⟩ | ⟨g, cap, _, h1, _⟩
  · omega
  · exact ⟨g, cap, h1⟩
def recC (k : ByteArray) : List Int := 0 :: (k.size : Int) :: packC (bsL k)
def cellsR (ls : List LstM) : List Int := 0 :: ls.flatMap fun l => recC l.key
def outE (ls : List LstM) (k : Nat) : List LstM := match ls[k]? with | some l => [⟨l.key, ((cellsR (ls.take k)).length : Int), l.ents⟩] | none => []
def outP (ls : List LstM) (i : Nat) : List LstM := (List.range i).flatMap (outE ls)
theorem outP_next {ls : List LstM} {i : Nat} {l : LstM} (h : ls[i]? = some l) : outP ls (i + 1) = outP ls i ++ [⟨l.key, ((cellsR (ls.take i)).length : Int), l.ents⟩] := by
  unfold outP
  rw [List.range_succ, List.flatMap_append]
  simp [outE, h]
theorem outP_len {ls : List LstM} : ∀ i, i ≤ ls.length → (outP ls i).length = i
  | 0, _ => rfl
  | i + 1, h => by
    have hg : ls[i]? = some (ls[i]'h) := List.getElem?_eq_getElem _
    rw [outP_next hg]
    simp [outP_len i (Nat.le_of_succ_le h)]
theorem cellsR_next {ls : List LstM} {i : Nat} {l : LstM} (h : ls[i]? = some l) : cellsR (ls.take (i + 1)) = cellsR (ls.take i) ++ ([0, (l.key.size : Int)] ++ packC (bsL l.key)) := by
  unfold cellsR
  rw [← take_snoc h, List.flatMap_append]
  simp [recC]
theorem outP_key {ls : List LstM} : ∀ i, i ≤ ls.length → ∀ x ∈ outP ls i, ∃ l ∈ ls, x.key = l.key
  | 0, _, x, hx => by cases hx
  | i + 1, h, x, hx => by
    have hg : ls[i]? = some (ls[i]'h) := List.getElem?_eq_getElem _
    rw [outP_next hg] at hx
    rcases List.mem_append.1 hx with hx | hx
    · exact outP_key i (Nat.le_of_succ_le h) x hx
    · rcases List.mem_singleton.1 hx with rfl
      exact ⟨ls[i], List.getElem_mem _, rfl⟩

set_option maxRecDepth 100000 in
set_option maxHeartbeats 4000000 in
theorem ref15_hold (rA : Option Addr) (rn rcap : Nat) (rc : List Int) (A : Option Addr) (cap : Nat) (ls : List LstM) (hkey : ∀ l ∈ ls, l.key.size ≤ 17) (hls : ls.length ≤ 300) (w : World) (hr : SlAt w (· < w.heap.size) 4 (.slice rA rn rcap) rn (rc.map (Value.int .u32))) (hv : ListsV w (· < w.heap.size) (.slice A ls.length cap) ls) :
    Calls Try.prog 16 #[.slice rA rn rcap, .slice A ls.length cap] w fun e w' =>
      (∃ g c ov, e = .returned (.tuple #[.slice (some ⟨g, 0, none⟩) (cellsR ls ++ makeL (cellsR ls).length rn rc (outP ls ls.length)).length c, ov, .int .i64 ((cellsR ls).length : Int), .bool true]) ∧ MayL rn (outP ls ls.length) ∧
        NewRow w w' 55 (Value.int .u32) (.slice (some ⟨g, 0, none⟩) (cellsR ls ++ makeL (cellsR ls).length rn rc (outP ls ls.length)).length c) (cellsR ls ++ makeL (cellsR ls).length rn rc (outP ls ls.length)) ∧ ListsV w' (· < w'.heap.size) ov (outP ls ls.length)) ∨
      (e = .returned (.tuple #[.slice none 0 0, .slice none 0 0, .int .i64 0, .bool false]) ∧ ¬ MayL rn (outP ls ls.length) ∧ Keeps (· < w.heap.size) w w') := by
  obtain ⟨A0, cap0, he, hc1, hc2⟩ := hv.form
  injection he with e1 _ e3
  subst e1 e3
  unfold maxLen at hc2
  have hrl : rc.length = 4 * rn := by have := hr.choose_spec.choose_spec.2.2.2.1; simp at this; omega
  have HRL := hid hrl
  clear hrl
  have HK := hid hkey
  have HV := hid hv
  have HRW := hid hr
  clear hv hr hkey
  refine calls_hide fun R' hR' => ?_
  go_enter Try.func16, Try.ntmps16
  go_wp2_with fail
  have hT0 : Two w.heap.size w ((w.alloc (.cells #[.int .u32 0] 55)).alloc (.cells #[] 42)) 55 1 (.slice (some ⟨w.heap.size, 0, none⟩) 1 1) 1 [.int .u32 0] 42 3 (.slice (some ⟨w.heap.size + 1, 0, none⟩) 0 0) 0 [] := by
    have k1 : Keeps (· < w.heap.size) w (w.alloc (.cells #[.int .u32 0] 55)) := (Keeps.refl _ _).alloc (fun b hb => hb) _
    have k2 : Keeps (· < (w.alloc (.cells #[.int .u32 0] 55)).heap.size) (w.alloc (.cells #[.int .u32 0] 55)) ((w.alloc (.cells #[.int .u32 0] 55)).alloc (.cells #[] 42)) := (Keeps.refl _ _).alloc (fun b hb => hb) _
    refine ⟨ownB_keepS (own_lit w _ _ _ 1 1 [.int .u32 0] rfl rfl (by decide) (Nat.le_refl _)) k2, ?_, ?_, k1.trans (k2.mono fun b hb => by simp; omega), by simp; omega⟩
    · have := own_lit (w.alloc (.cells #[.int .u32 0] 55)) w.heap.size 42 42 3 0 [] rfl rfl (Nat.zero_le _) (by simp)
      rw [World.size_alloc] at this
      exact this
    · intro y h1 h2
      simp [Value.ownBlock] at h1 h2
      omega
  generalize ((w.alloc (.cells #[.int .u32 0] 55)).alloc (.cells #[] 42)) = W0 at *
  have HT0 := hid hT0
  clear hT0
  go_loopw [8, 9, 19] (fun cv ov iv wr => ∃ (i : Nat) (cl : List Int) (oc : List Value) (gc go cc co : Nat), cv = .slice (some ⟨gc, 0, none⟩) cl.length cc ∧ ov = .slice (some ⟨go, 0, none⟩) i co ∧ iv = .int .i64 (i : Int) ∧ i ≤ ls.length ∧ cl.length ≤ 1 + 7 * i ∧ 0 < cl.length ∧
    Hid (cl = cellsR (ls.take i)) ∧ Hid (ListAt w (· < w.heap.size) (outP ls i) oc) ∧
    Hid (Two w.heap.size w wr 55 1 (.slice (some ⟨gc, 0, none⟩) cl.length cc) cl.length (cl.map (Value.int .u32)) 42 3 (.slice (some ⟨go, 0, none⟩) i co) i oc)) (fun _ _ iv _ => ls.length - (intOf iv).toNat)
  case atStart => exact ⟨0, [0], [], w.heap.size, w.heap.size + 1, 1, 0, rfl, rfl, rfl, Nat.zero_le _, by decide, by decide, hid rfl, hid rfl, HT0⟩
  case round =>
    obtain ⟨i, cl, oc, gc, go, cc, co, rfl, rfl, rfl, hi, hcl, hcl0, HCL, HOC, HT⟩ := hrel
    by_cases hli : i < ls.length
    · have hliI : (i : Int) < (ls.length : Int) := by omega
      have hi0 : (0 : Int) ≤ (i : Int) := Int.natCast_nonneg i
      have hgl : ls[i]? = some ls[i] := List.getElem?_eq_getElem hli
      have hks := HK.out ls[i] (List.getElem_mem _)
      generalize ls[i] = l at hgl hks
      obtain ⟨b, off, cp, ev, e1, hKb, x0, x1, x2, hev⟩ := HV.out.get hgl
      injection e1 with e1 _ e2
      subst e1 e2
      obtain ⟨eA, ec, rfl, hp1, hp2⟩ := hev.form
      have y0 := (World.cell?_of_block (a := ⟨b, off + i * 3, none⟩) (HT.out.keeps.block b hKb)).trans x0
      have y1 := (World.cell?_of_block (a := ⟨b, off + i * 3 + 1, none⟩) (HT.out.keeps.block b hKb)).trans x1
      have y2 := (World.cell?_of_block (a := ⟨b, off + i * 3 + 2, none⟩) (HT.out.keeps.block b hKb)).trans x2
      have hcn := cellsR_next hgl
      have hon := outP_next hgl
      rw [← HCL.out] at hcn hon
      have hL1 : ListAt w (· < w.heap.size) (outP ls (i + 1)) (oc ++ [.string l.key, .int .i64 (cl.length : Int), .slice eA l.ents.length ec]) := by
        rw [hon]
        exact ListAt.append _ _ _ _ HOC.out ⟨_, [], rfl, hev, rfl⟩
      obtain ⟨ne, hne⟩ : ∃ d, d = l.ents.length := ⟨_, rfl⟩
      obtain ⟨rv, hrv⟩ : ∃ d, d = l.rcd := ⟨_, rfl⟩
      obtain ⟨kv, hkv⟩ : ∃ d, d = l.key := ⟨_, rfl⟩
      rw [← hne] at y2 hL1 hp1
      rw [← hrv] at y1
      rw [← hkv] at y0 hL1 hks hcn
      have hpl : (packC (bsL kv)).length ≤ 5 := by rw [packC_len, bsL_len]; omega
      have hle := HT.out.le
      have hgc := (ownB_lt HT.out.o1 (b := gc) rfl).2
      have hgo := (ownB_lt HT.out.o2 (b := go) rfl).2
      have HL1 := hid hL1
      have Hcn := hid hcn
      clear hL1 hcn
      clear x0 x1 x2 hev hgl hon hne hrv hkv hp1 hp2 HCL HOC
      go_upto_region 8 with fail
      refine wp_gen (fun W => Blk W wr.heap.size [.string kv, .int .i64 (cl.length : Int), .slice eA ne ec] ∧ wr.heap.size < W.heap.size ∧ Two w.heap.size w W 55 1 (.slice (some ⟨gc, 0, none⟩) cl.length cc) cl.length (cl.map (Value.int .u32)) 42 3 (.slice (some ⟨go, 0, none⟩) i co) i oc) ⟨Blk.new wr _ _, by simp, HT.out.alloc _⟩ ?_
      rintro W ⟨hbe, hsW, hTW⟩
      generalize wr.heap.size = be at *
      clear HT y0 y1 y2
      have hbe0 := hbe
      have z0 := (hbe0).cell 0
      have z1 := (hbe0).cell 1
      have z2 := (hbe0).cell 2
      simp only [List.getElem?_cons_zero, List.getElem?_cons_succ] at z0 z1 z2
      clear hbe0
      have hleW := hTW.le
      have HTW := hid hTW
      have Hbe := hid hbe
      clear hTW hbe
      have hkz : (kv.size : Int) ≤ 17 := by omega
      obtain ⟨i0, hi, hz0, hz1, hz2⟩ := info_partsF Try.infoU
      go_wp2_with (at_builtin; go_must (refine wpList_append_own_at _ rfl _ _ 32 rfl (w.heap.size) 55 i0 (.int .u32 0) 1 4 Try.underlying32 hi hz0 hz1 hz2 rfl (by decide) (.slice (some ⟨gc, 0, none⟩) cl.length cc) cl.length (cl.map (Value.int .u32)) rfl (ownB_keepS HTW.out.o1 ((Keeps.refl _ _).alloc (fun b hb => hb) _)) ⟨W.heap.size, 0, none⟩ 2 2 [.int .u32 0, .int .u32 (kv.size : Int)] rfl (by simp) (own_news (own_lit W 0 _ _ 1 2 [.int .u32 0, .int .u32 (kv.size : Int)] rfl rfl (by decide) (Nat.zero_le _))) ?_ ?_ ?_ ?_ ?_))
      all_goals (try (first | with_reducible exact one1 _ _ | with_reducible exact one2 _ _ _ | with_reducible exact one4 _ _ _ _ _ | with_reducible exact oneM _ _ | exact rfl | exact fun _ _ => rfl | exact ⟨rfl, rfl⟩ | exact ⟨rfl, rfl, rfl⟩ | exact ⟨rfl, rfl, rfl, rfl⟩ | (unfold maxLen; omega) | omega | (simp; omega) | (simp; done)))
      (try clear hi)
      (try clear hz0)
      (try clear hz1)
      (try clear hz2)
      intro v' w6 hown hgr _ hf
      have hN := (HTW.out.alloc _).app hown hgr (by simpa using hf)
      have hB6 := blk_grown (Hbe.out.alloc _) hgr (by simp [Value.ownBlock]; omega)
      obtain ⟨g6, c6, rfl⟩ := ownB_pos hown (by omega)
      have hne6 : g6 ≠ be := by
        simp [Value.ownBlock] at hf
        omega
      obtain ⟨cl2, hcl2⟩ : ∃ cl2 : List Int, cl2 = cl ++ [0, (kv.size : Int)] := ⟨_, rfl⟩
      have hl1 : cl.length + 2 = cl2.length := by rw [hcl2]; simp
      have hl2 : cl.map (Value.int .u32) ++ [.int .u32 0, .int .u32 (kv.size : Int)] = cl2.map (Value.int .u32) := by rw [hcl2]; simp
      have hlb : cl2.length ≤ 3 + 7 * i := by omega
      have hlc : 0 < cl2.length := by omega
      rw [hl1, hl2] at hN
      rw [hl1]
      have hle6 := hN.le
      have hlt6 := hB6.lt
      clear hown hgr hf hl1 hl2 z0 z1 z2 HTW Hbe hle hleW
      have hbe0 := hB6
      have z0 := (hbe0).cell 0
      have z1 := (hbe0).cell 1
      have z2 := (hbe0).cell 2
      simp only [List.getElem?_cons_zero, List.getElem?_cons_succ] at z0 z1 z2
      clear hbe0
      have HN := hid hN
      have HB6 := hid hB6
      have Hcl2 := hid hcl2
      clear hN hB6 hcl2
      go_wp2_with fail
      refine (ref7_cells2 kv (by omega) w6).mono ?_
      rintro e' w7 ⟨g7, c7, rfl, hN7⟩
      have hT7 := HN.out.calls hN7.2
      have hB7 := HB6.out.keep hN7.2 hlt6
      have hnw := own_news hN7.1
      have hle7 := hT7.le
      obtain ⟨ye, hye⟩ : ∃ ye, ye = packC (bsL kv) := ⟨_, rfl⟩
      rw [← hye] at hN7 hnw hpl ⊢
      clear z0 z1 z2 hle6
      have hlt7 := hB7.lt
      have hne7 : w6.heap.size ≤ w7.heap.size := hN7.2.size
      have HT7 := hid hT7
      have HB7 := hid hB7
      have Hnw := hid hnw
      have Hye := hid hye
      clear hT7 hB7 hnw hye
      clear HN HB6 hN7
      obtain ⟨i0, hi, hz0, hz1, hz2⟩ := info_partsF Try.infoU
      go_wp2_with (at_builtin; go_must (refine wpList_append_own_at _ rfl _ _ 32 rfl (w.heap.size) 55 i0 (.int .u32 0) 1 4 Try.underlying32 hi hz0 hz1 hz2 rfl (by decide) (.slice (some ⟨g6, 0, none⟩) cl2.length c6) cl2.length (cl2.map (Value.int .u32)) rfl HT7.out.o1 ⟨g7, 0, none⟩ ye.length c7 (ye.map (Value.int .u32)) rfl (by simp) Hnw.out ?_ ?_ ?_ ?_ ?_))
      all_goals (try (first | with_reducible exact one1 _ _ | with_reducible exact one2 _ _ _ | with_reducible exact one4 _ _ _ _ _ | with_reducible exact oneM _ _ | exact rfl | exact fun _ _ => rfl | exact ⟨rfl, rfl⟩ | exact ⟨rfl, rfl, rfl⟩ | exact ⟨rfl, rfl, rfl, rfl⟩ | (unfold maxLen; omega) | omega | (simp; omega) | (simp; done)))
      (try clear hi)
      (try clear hz0)
      (try clear hz1)
      (try clear hz2)
      intro v' w8 hown hgr _ hf
      have hN := HT7.out.app hown hgr hf
      have hB8 := blk_grown HB7.out hgr (by simp [Value.ownBlock]; omega)
      obtain ⟨g8, c8, rfl⟩ := ownB_pos hown (by omega)
      obtain ⟨cl3, hcl3⟩ : ∃ cl3 : List Int, cl3 = cl2 ++ ye := ⟨_, rfl⟩
      have hl1 : cl2.length + ye.length = cl3.length := by rw [hcl3]; simp
      have hl2 : cl2.map (Value.int .u32) ++ ye.map (Value.int .u32) = cl3.map (Value.int .u32) := by rw [hcl3]; simp
      have hlb3 : cl3.length ≤ 1 + 7 * (i + 1) := by omega
      have hlc3 : 0 < cl3.length := by omega
      have hcx : cl3 = cellsR (ls.take (i + 1)) := by rw [Hcn.out, hcl3, Hcl2.out, Hye.out, List.append_assoc]
      rw [hl1, hl2] at hN
      rw [hl1]
      have hle8 := hN.le
      clear hown hgr hf hl1 hl2 hcl3 HT7 HB7 Hnw hle7 hne6
      have hbe0 := hB8
      have z0 := (hbe0).cell 0
      have z1 := (hbe0).cell 1
      have z2 := (hbe0).cell 2
      simp only [List.getElem?_cons_zero, List.getElem?_cons_succ] at z0 z1 z2
      clear hbe0
      have HN := hid hN
      have HB8 := hid hB8
      have Hcx := hid hcx
      clear hN hB8 hcx
      go_upto_region 10 with fail
      obtain ⟨i0, hi, hz0, hz1, hz2⟩ := info_partsF Try.infoLst
      go_wp2_with (at_builtin; go_must (refine wpList_append_own_at _ rfl _ _ 30 rfl (w.heap.size) 42 i0 (.agg #[.string ⟨#[]⟩, .int .i64 0, .slice none 0 0]) 3 48 Try.underlying30 hi hz0 hz1 hz2 rfl (by decide) (.slice (some ⟨go, 0, none⟩) i co) i oc rfl (ownB_keepS HN.out.o2 ((Keeps.refl _ _).alloc (fun b hb => hb) _)) ⟨w8.heap.size, 0, none⟩ 1 1 [.string kv, .int .i64 (cl.length : Int), .slice eA ne ec] rfl (by simp) (own_newsS (own_lit w8 0 _ _ 3 1 [.string kv, .int .i64 (cl.length : Int), .slice eA ne ec] rfl rfl (by decide) (Nat.zero_le _))) ?_ ?_ ?_ ?_ ?_))
      all_goals (try (first | with_reducible exact one1 _ _ | with_reducible exact one2 _ _ _ | with_reducible exact one4 _ _ _ _ _ | with_reducible exact oneM _ _ | exact rfl | exact fun _ _ => rfl | exact ⟨rfl, rfl⟩ | exact ⟨rfl, rfl, rfl⟩ | exact ⟨rfl, rfl, rfl, rfl⟩ | (unfold maxLen; omega) | omega | (simp; omega) | (simp; done)))
      (try clear hi)
      (try clear hz0)
      (try clear hz1)
      (try clear hz2)
      · intro u hu
        first | (rcases hu with rfl | rfl | rfl <;> rfl) | (simp at hu; rcases hu with rfl | rfl | rfl <;> rfl)
      intro v' w9 hown hgr _ hf
      have hN := (HN.out.alloc _).swap.app hown hgr (by simpa using hf)
      replace hN := hN.swap
      obtain ⟨g9, c9, rfl⟩ := ownB_posS hown (by omega)
      clear hown hgr hf z0 z1 z2 HB8 HN hle8
      have HN9 := hid hN
      clear hN
      go_wp2_with fail
      go_roundw
      case rel => exact ⟨i + 1, cl3, oc ++ [.string kv, .int .i64 (cl.length : Int), .slice eA ne ec], g8, g9, c8, c9, rfl, rfl, by go_num, hli, hlb3, hlc3, Hcx, HL1, HN9⟩
      case measure => first | (simp [intOf]; done) | (simp [intOf]; omega)
    · obtain rfl : i = ls.length := by omega
      have hliI : ¬ (ls.length : Int) < (ls.length : Int) := by omega
      have hcx := HCL.out
      rw [List.take_length] at hcx
      have hle := HT.out.le
      have hrow := (HRW.out.keep HT.out.keeps (fun b hb => hb)).mono (L := (· < wr.heap.size)) (fun b hb => Nat.lt_of_lt_of_le hb hle)
      have hol := outP_len (ls := ls) ls.length (Nat.le_refl _)
      have hls2 : ListsV wr (· < wr.heap.size) (.slice (some ⟨go, 0, none⟩) (outP ls ls.length).length co) (outP ls ls.length) := by
        rw [hol]
        refine ⟨oc, by rw [hol]; exact (ownB_slAtS HT.out.o2).mono (fun b hb => hb.2), ?_⟩
        exact ListAt.up (fun b hb => Nat.lt_of_lt_of_le hb hle) _ _ (ListAt.keep HT.out.keeps (fun b hb => hb) _ _ HOC.out)
      have hko : ∀ x ∈ outP ls ls.length, x.key.size ≤ 17 := by
        intro x hx
        obtain ⟨l, hl, e⟩ := outP_key ls.length (Nat.le_refl _) x hx
        rw [e]; exact HK.out l hl
      have hmk := ref14_make cl.length (by omega) rA rn rcap rc (some ⟨go, 0, none⟩) co (outP ls ls.length) hko wr hrow hls2
      rw [hol] at hmk
      have HLS := hid hls2
      have HMK := hid hmk
      have HOL := hid hol
      have Hcx := hid hcx
      clear hcx
      clear hrow hls2 hko hmk hol
      go_wp2_with fail
      refine HMK.out.mono ?_
      rintro e' w7 (⟨g7, c7, rfl, hmay, hN7⟩ | ⟨rfl, hnm, hk7⟩)
      · have hT7 := HT.out.calls hN7.2
        have hnw := own_news hN7.1
        have hle7 := hT7.le
        have hle78 := hN7.2.size
        have hL7 := HLS.out.keep hN7.2 (fun b hb => hb)
        have hfin : cl ++ makeL cl.length rn rc (outP ls ls.length) = cellsR ls ++ makeL (cellsR ls).length rn rc (outP ls ls.length) := by rw [← Hcx.out]
        have hmb : (makeL cl.length rn rc (outP ls ls.length)).length ≤ 8000000 := makeL_len hmay HRL.out
        have HOC2 := hid (ListAt.keep hT7.keeps (fun b hb => hb) _ _ HOC.out)
        have hcl2 : cl.length = (cellsR ls).length := by rw [← Hcx.out]
        generalize makeL cl.length rn rc (outP ls ls.length) = ye at hN7 hnw hfin hmb ⊢
        rw [← hfin, ← hcl2] at hR'
        have HT7 := hid hT7
        have Hnw := hid hnw
        have Hmay := hid hmay
        have HL7 := hid hL7
        have Hfin := hid hfin
        have Hcl2 := hid hcl2
        clear hT7 hnw hmay hL7 hfin hcl2
        clear HT hN7 HMK
        go_upto_region 16 with fail
        obtain ⟨i0, hi, hz0, hz1, hz2⟩ := info_partsF Try.infoU
        go_wp2_with (at_builtin; go_must (refine wpList_append_own_at _ rfl _ _ 32 rfl (w.heap.size) 55 i0 (.int .u32 0) 1 4 Try.underlying32 hi hz0 hz1 hz2 rfl (by decide) (.slice (some ⟨gc, 0, none⟩) cl.length cc) cl.length (cl.map (Value.int .u32)) rfl HT7.out.o1 ⟨g7, 0, none⟩ ye.length c7 (ye.map (Value.int .u32)) rfl (by simp) Hnw.out ?_ ?_ ?_ ?_ ?_))
        all_goals (try (first | with_reducible exact one1 _ _ | with_reducible exact one2 _ _ _ | with_reducible exact one4 _ _ _ _ _ | with_reducible exact oneM _ _ | exact rfl | exact fun _ _ => rfl | exact ⟨rfl, rfl⟩ | exact ⟨rfl, rfl, rfl⟩ | exact ⟨rfl, rfl, rfl, rfl⟩ | (unfold maxLen; omega) | omega | (simp; omega) | (simp; done)))
        (try clear hi)
        (try clear hz0)
        (try clear hz1)
        (try clear hz2)
        intro v' w8 hown hgr _ hf
        have hN := HT7.out.app hown hgr hf
        obtain ⟨g8, c8, rfl⟩ := ownB_pos hown (by omega)
        have hl1 : cl.length + ye.length = (cl ++ ye).length := by simp
        have hl2 : cl.map (Value.int .u32) ++ ye.map (Value.int .u32) = (cl ++ ye).map (Value.int .u32) := by simp
        rw [hl1, hl2] at hN
        rw [hl1]
        have hL8 : ListsV w8 (· < w8.heap.size) (.slice (some ⟨go, 0, none⟩) ls.length co) (outP ls ls.length) := by
          refine ⟨oc, by rw [HOL.out]; exact (ownB_slAtS hN.o2).mono (fun b hb => hb.2), ?_⟩
          exact ListAt.up (fun b hb => Nat.lt_of_lt_of_le hb hN.le) _ _ (ListAt.keep hN.keeps (fun b hb => hb) _ _ HOC.out)
        clear hown hgr hf hl1 hl2
        have HN8 := hid hN
        have HL8 := hid hL8
        clear hN hL8
        go_wp2_with fail
        (try simp only [Exit.inBlock, Exit.then])
        refine bodyPost_ret (results_tmp4 rfl _ _ _) rfl ?_
        exact hR'.out _ _ (Or.inl ⟨g8, c8, _, rfl, Hmay.out, ⟨HN8.out.o1, HN8.out.keeps⟩, HL8.out⟩)
      · have hk8 := HT.out.keeps.trans (hk7.mono fun b hb => by omega)
        have Hk8 := hid hk8
        have Hnm := hid hnm
        clear hk8 hnm
        clear hk7
        go_wp2_with fail
        (try simp only [Exit.inBlock, Exit.then])
        refine bodyPost_ret (results_tmp4 rfl _ _ _) rfl ?_
        exact hR'.out _ _ (Or.inr ⟨rfl, Hnm.out, Hk8.out⟩)
end Go.Proofs.Ytbmgmjfpoepgpaa
