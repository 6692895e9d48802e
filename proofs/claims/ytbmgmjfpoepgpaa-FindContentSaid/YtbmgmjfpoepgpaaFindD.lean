/- Contract of package find: List. -/
import Derived.Test.YtbmgmjfpoepgpaaFindC
import Derived.Outline
import Derived.Deep.CutBlock
namespace Go.Proofs.Ytbmgmjfpoepgpaa
open Go.RowKit

def blkC (list most : Int) (n f b : Nat) (l : Int) (q : List EntM × RdM × Bool) : Tree (List EntM) := if q.2.2 = true then .ret q.1 else if l / 65536 ≥ wrap64 (most - 1) then .ret q.1 else blkL list most n f (b + 1) q.1 q.2.1
theorem blkL_step (list most : Int) (n f b : Nat) (out : List EntM) (x : RdM) (s : St) : (blkL list most n (f + 1) b out x).exec s = ((entL most (min 4 (n - 4 * b)) 0 out x).bind (blkC list most n f b (s.load (list + 1 + (b : Int))).1)).exec (s.load (list + 1 + (b : Int))).2 := rfl
def entC (most doc : Int) (f : Nat) (out : List EntM) (C : List EntM × RdM × Bool → Tree (List EntM)) (p : List Int × RdM) : Tree (List EntM) :=
  .off fun o => if o = true ∨ doc ≥ most then C (out, p.2, true) else (entL most f doc (out ++ [⟨doc, p.1⟩]) p.2).bind C
theorem entL_step (most : Int) (f : Nat) (doc : Int) (out : List EntM) (x : RdM) (C : List EntM × RdM × Bool → Tree (List EntM)) (s : St) :
    ((entL most (f + 1) doc out x).bind C).exec s = (((numT ((numT x).exec s).1.2).bind fun z => (posL (min z.1 256).toNat 0 [] z.2).bind (entC most (doc + ((numT x).exec s).1.1) f out C))).exec ((numT x).exec s).2 := by
  unfold entL
  simp only [Tree.exec_bind]
  generalize ((numT ((numT x).exec s).1.2).exec ((numT x).exec s).2) = z
  obtain ⟨⟨z1, z2⟩, z3⟩ := z
  simp only
  generalize (posL (min z1 256).toNat 0 [] z2).exec z3 = p
  obtain ⟨p1, p2⟩ := p
  simp only [entC, Tree.exec]
  split <;> simp [Tree.exec, Tree.exec_bind]
theorem posL_step (k : Nat) (at0 : Int) (acc : List Int) (x : RdM) (C : List Int × RdM → Tree (List EntM)) (s : St) :
    ((posL (k + 1) at0 acc x).bind C).exec s = ((posL k (at0 + ((numT x).exec s).1.1) (acc ++ [at0 + ((numT x).exec s).1.1]) ((numT x).exec s).1.2).bind C).exec ((numT x).exec s).2 := by
  rw [posL]
  simp only [Tree.exec_bind]
theorem numT_bind {β : Type} (x : RdM) (C : Int × RdM → Tree β) (s : St) : ((numT x).bind C).exec s = (C ((numT x).exec s).1).exec ((numT x).exec s).2 := Tree.exec_bind _ _ _
theorem Try.infoF : (Try.prog.info? 3).map (fun i => (i.zero, i.size, i.bytes)) = some (some (.int .i64 0), 1, 8) := by kernel_rfl
theorem Try.infoE : (Try.prog.info? 71).map (fun i => (i.zero, i.size, i.bytes)) = some (some (.agg #[.int .i64 0, .slice none 0 0]), 2, 32) := by kernel_rfl
set_option maxRecDepth 100000 in
set_option maxHeartbeats 8000000 in
theorem find_list {w : World} {K : Nat → Prop} {r m c : Nat} {s : St} (h : RM w K r m c s) (list most : Int) (hl : -1099511600000 ≤ list ∧ list ≤ 1099511600000) (hmo : -9223372036854775808 ≤ most ∧ most ≤ 9223372036854775807) :
    Calls Try.prog 21 #[.pointer (some ⟨r, 0, none⟩), .int .i64 list, .int .i64 most] w fun e w' => ∃ g G, e = .returned g ∧ RM w' (fun y => (K y ∨ G y) ∨ g.ownBlock = some y) r m c ((listT list most).exec s).2 ∧
      (∃ cells, w'.ownsRow 0 71 2 g ((listT list most).exec s).1.length cells ∧ EntAt w' G ((listT list most).exec s).1 cells) ∧ (∀ y, g.ownBlock = some y → ¬ K y ∧ ¬ G y) ∧ (∀ y, G y → ¬ K y) ∧ Keeps K w w' := by
  generalize hres : (listT list most).exec s = res
  obtain ⟨a0, a1⟩ := hl
  have HMO := hid hmo
  have H := hid h
  have Hres := hid hres
  clear h hres
  clear hmo
  refine calls_hide fun R' hR' => ?_
  go_enter Try.func21, Try.ntmps21
  go_wp2_with fail
  go_step3
  go_wp2_with fail
  refine (step_load H.out list).mono ?_
  rintro e w1 ⟨rfl, hr1, hk1⟩
  have hu := H.out.load_u32 list
  have hx : (if (s.load list).1 > 64 then Tree.ret [] else blkL list most (s.load list).1.toNat (((s.load list).1.toNat + 3) / 4) 0 [] ⟨list + 1 + ((((s.load list).1.toNat + 3) / 4 : Nat) : Int), 0, -1, 0⟩).exec (s.load list).2 = res := Hres.out
  generalize s.load list = ls at *
  obtain ⟨n, s1⟩ := ls
  simp only at hr1 hu hx
  obtain ⟨u0, u1⟩ := hu
  clear Hres
  by_cases h64 : n > 64
  · rw [if_pos h64] at hx
    have hf : (([] : List EntM), s1) = res := hx
    have Hf := hid hf
    have Hr1 := hid hr1
    have Hk1 := hid hk1
    clear hf hr1 hk1
    clear hx
    go_wp2_with fail
    refine hR'.out _ _ ⟨_, fun _ => False, rfl, ?_⟩
    rw [← Hf.out]
    exact ⟨Hr1.out.mono (fun y hy => by rcases hy with (hy | hy) | hy; exact hy; exact hy.elim; cases hy), ⟨[], ⟨rfl, Or.inl ⟨rfl, rfl⟩⟩, rfl⟩, fun y hy => (by cases hy), fun y hy => hy.elim, Hk1.out⟩
  · rw [if_neg h64] at hx
    obtain ⟨n, rfl⟩ := Int.eq_ofNat_of_zero_le u0
    rw [Int.toNat_natCast] at hx
    obtain ⟨nb, hnb⟩ : ∃ nb, nb = (n + 3) / 4 := ⟨_, rfl⟩
    rw [show (((n + 3) / 4 : Nat) : Int) = ((n : Int) + 3) / 4 by omega, ← hnb] at hx
    have hn64 : n ≤ 64 := by omega
    have hnb16 : nb ≤ 16 := by omega
    have HNB := hid hnb
    clear hnb
    have hls : LSt w (w1.alloc (.cells (RdM.cells ⟨list + 1 + ((n : Int) + 3) / 4, 0, -1, 0⟩ r).toArray 84)) K r m c w1.heap.size (fun _ => False) (.slice none 0 0) [] ⟨list + 1 + ((n : Int) + 3) / 4, 0, -1, 0⟩ s1 :=
      ⟨(hr1.more _).mono (fun b hb => by rcases hb with (hb | hb) | hb; exact hb; exact hb.elim; cases hb), ⟨[], ⟨rfl, Or.inl ⟨rfl, rfl⟩⟩, rfl⟩, fun y hy => (by cases hy), fun y hy => hy.elim, Blk.new w1 _ _, ⟨⟨by show _ ≤ list + 1 + ((n : Int) + 3) / 4; omega, by show list + 1 + ((n : Int) + 3) / 4 ≤ _; omega⟩, Nat.zero_le _, ⟨by show (-1 : Int) ≤ -1; decide, by show (-1 : Int) ≤ 1099511627776; decide⟩, ⟨by show (0 : Int) ≤ 0; decide, by show (0 : Int) ≤ 4294967295; decide⟩⟩,
        hk1.alloc (fun b hb => hr1.lt b hb) _, fun hb => by have := hr1.lt _ hb; omega⟩
    have Hls := hid hls
    have Hx := hid hx
    clear hls hx
    clear hr1 hk1 h64
    go_wp2_with fail
    refine wp_gen (fun W => LSt w W K r m c w1.heap.size (fun _ => False) (.slice none 0 0) [] ⟨list + 1 + ((n : Int) + 3) / 4, 0, -1, 0⟩ s1) Hls.out ?_
    clear Hls
    rintro W1 hls
    generalize w1.heap.size = b9 at *
    have Hls := hid hls
    clear hls
    go_step3
    go_wp2_with fail
    go_loopw [11, 36] (fun ov bv wr => ∃ (b : Nat) (G : Nat → Prop) (A : Option Addr) (cp : Nat) (es : List EntM) (x' : RdM) (s' : St), ov = .slice A es.length cp ∧ bv = .int .i64 (b : Int) ∧ b ≤ nb ∧ es.length ≤ 4 * b ∧ x'.at' ≤ 6000 * b ∧
      Hid (LSt w wr K r m c b9 G (.slice A es.length cp) es x' s') ∧ Hid ((blkL list most n (nb - b) b es x').exec s' = res)) (fun _ bv _ => nb - (intOf bv).toNat)
    case atStart => exact ⟨0, fun _ => False, none, 0, [], _, s1, rfl, rfl, Nat.zero_le _, Nat.zero_le _, Nat.zero_le _, Hls, Hx⟩
    case round =>
      obtain ⟨b, G, A, cp, es, x', s', rfl, rfl, hb, hes, hat, HL, HE⟩ := hrel
      clear Hls Hx
      by_cases hlt : b < nb
      · have hlt' : (b : Int) < ((n : Int) + 3) / 4 := by have := HNB.out; omega
        have h4b : 4 * b < n := by have := HNB.out; omega
        have hex := HE.out
        rw [show nb - b = (nb - (b + 1)) + 1 by omega, blkL_step] at hex
        clear HE
        have hld := step_load HL.out.rm (list + 1 + (b : Int))
        have hu3 := HL.out.rm.load_u32 (list + 1 + (b : Int))
        generalize s'.load (list + 1 + (b : Int)) = ls at *
        obtain ⟨lv, s2⟩ := ls
        simp only at hld hu3 hex
        obtain ⟨l0, l1⟩ := hu3
        have Hld := hid hld
        have Hex := hid hex
        clear hld hex
        go_wp2_with fail
        refine Hld.out.mono ?_
        rintro e w2 ⟨rfl, hr2, hk2⟩
        have hls2 := HL.out.run hr2 hk2
        clear hr2 hk2 HL Hld
        obtain ⟨cnt, hcnt⟩ : ∃ cnt, cnt = min 4 (n - 4 * b) := ⟨_, rfl⟩
        have hex := Hex.out
        rw [← hcnt] at hex
        have hc4 : cnt ≤ 4 := by omega
        have HCN := hid hcnt
        clear hcnt Hex
        have Hls2 := hid hls2
        have Hex := hid hex
        clear hls2 hex
        go_upto_region 13 with fail
        go_cut [51, 52] from 47 to 50 (fun a0 b0 wx => a0 = .int .i64 (cnt : Int) ∧ b0 = .int .i64 0 ∧ wx = w2)
        case first =>
          by_cases h4 : 4 ≤ n - 4 * b
          · have h4I : (4 : Int) ≤ (n : Int) - 4 * (b : Int) := by omega
            have hc : cnt = 4 := by have := HCN.out; omega
            have Hc := hid hc
            clear hc
            clear h4
            go_wp2_with fail
            go_meet
            case rel => exact ⟨by rw [Hc.out]; rfl, rfl, rfl⟩
          · have h4I : ¬ (4 : Int) ≤ (n : Int) - 4 * (b : Int) := by omega
            have h4J : (n : Int) - 4 * (b : Int) ≤ 4 := by omega
            have hc : (n : Int) - 4 * (b : Int) = (cnt : Int) := by have := HCN.out; omega
            have Hc := hid hc
            clear hc
            clear h4
            go_wp2_with fail
            go_meet
            case rel => exact ⟨by rw [Hc.out], rfl, rfl⟩
        case rest =>
          obtain ⟨rfl, rfl, rfl⟩ := hcut
          go_wp2_with fail
          go_loopw [11, 14, 52] (fun ov dv iv wi => ∃ (i : Nat) (doc : Int) (G : Nat → Prop) (A : Option Addr) (cp : Nat) (es : List EntM) (x' : RdM) (s' : St), ov = .slice A es.length cp ∧ dv = .int .i64 doc ∧ iv = .int .i64 (i : Int) ∧ i ≤ cnt ∧ 0 ≤ doc ∧ doc ≤ 4294967296 * (i : Int) ∧ es.length ≤ 4 * b + i ∧ x'.at' ≤ 6000 * b + 1400 * i ∧
            Hid (LSt w wi K r m c b9 G (.slice A es.length cp) es x' s') ∧ Hid (((entL most (cnt - i) doc es x').bind (blkC list most n (nb - (b + 1)) b lv)).exec s' = res)) (fun _ _ iv _ => cnt - (intOf iv).toNat)
          case atStart => exact ⟨0, 0, G, A, cp, es, x', s2, rfl, rfl, rfl, Nat.zero_le _, by omega, by omega, by omega, by omega, Hls2, Hex⟩
          case round =>
            rename World => wi
            clear Hls2 Hex
            obtain ⟨i, doc, G, A, cp, es, x', s', rfl, rfl, rfl, hi, hd0, hd1, hes, hat, HL, HE⟩ := hrel
            by_cases hic : i < cnt
            · have hic' : (i : Int) < (cnt : Int) := by omega
              have hex := HE.out
              rw [show cnt - i = (cnt - (i + 1)) + 1 by omega, entL_step] at hex
              clear HE
              have hnum := rd_number HL.out.rm b9 x' HL.out.xok (by omega) HL.out.blk (Or.inl (Or.inl (Or.inr rfl)))
              generalize (numT x').exec s' = y at *
              obtain ⟨⟨y1, x2⟩, s2⟩ := y
              simp only at hnum hex
              have Hnum := hid hnum
              have Hex := hid hex
              clear hnum hex
              go_wp2_with fail
              refine Hnum.out.mono ?_
              rintro e w3 ⟨rfl, hr3, hb3, hx3, ⟨hy0, hy1⟩, hat3, hk3⟩
              have hL3 := HL.out.num hr3 hb3 hx3 hk3
              clear hr3 hb3 hx3 hk3 HL Hnum
              obtain ⟨d2, hd2⟩ : ∃ d2, d2 = doc + y1 := ⟨_, rfl⟩
              have hex := Hex.out
              rw [← hd2] at hex
              have hdd : doc + y1 = d2 := hd2.symm
              have hD := hid (show 0 ≤ d2 ∧ d2 ≤ 4294967296 * ((i : Int) + 1) by omega)
              have hLE := hL3.entry d2 71
              clear hd2 Hex hL3
              have Hex := hid hex
              have HLE := hid hLE
              clear hex hLE
              go_upto_region 18 with fail
              refine wp_gen (fun W => LIn w W K r m c b9 w3.heap.size G (.slice A es.length cp) es d2 (.slice none 0 0) [] x2 s2) HLE.out ?_
              clear HLE
              rintro W3 hLE
              generalize w3.heap.size = b15 at *
              have hnum := rd_number hLE.rm b9 x2 hLE.xok (by omega) hLE.blk (Or.inl (Or.inl (Or.inl (Or.inl (Or.inr rfl)))))
              have hex := Hex.out
              rw [numT_bind] at hex
              generalize (numT x2).exec s2 = z at *
              obtain ⟨⟨z1, x3⟩, s3⟩ := z
              simp only at hnum hex
              obtain ⟨cntp, hcp⟩ : ∃ cntp, cntp = (min z1 256).toNat := ⟨_, rfl⟩
              rw [← hcp] at hex
              have HCP := hid hcp
              clear hcp Hex
              have HLE := hid hLE
              have Hnum := hid hnum
              have Hex := hid hex
              clear hLE hnum hex
              go_cut [62, 63] from 60 to 61 (fun a0 b0 wx => a0 = .int .i64 (cntp : Int) ∧ b0 = .int .i64 0 ∧ LIn w wx K r m c b9 b15 G (.slice A es.length cp) es d2 (.slice none 0 0) [] x3 s3 ∧ x3.at' ≤ x2.at' + 5 ∧ cntp ≤ 256)
              case first =>
                go_wp2_with fail
                refine Hnum.out.mono ?_
                rintro e w4 ⟨rfl, hr4, hb4, hx4, ⟨hz0, hz1⟩, hat4, hk4⟩
                have hL4 := HLE.out.num hr4 hb4 hx4 hk4
                clear hr4 hb4 hx4 hk4
                have HL4 := hid hL4
                clear hL4
                by_cases h256 : z1 ≤ 256
                · have hc : z1 = (cntp : Int) := by have := HCP.out; omega
                  have hc2 : cntp ≤ 256 := by omega
                  have Hc := hid hc
                  have Hat4 := hid hat4
                  clear hc hat4
                  go_wp2_with fail
                  go_meet
                  case rel => exact ⟨by rw [Hc.out], rfl, HL4.out, Hat4.out, hc2⟩
                · have hc : cntp = 256 := by have := HCP.out; omega
                  have h256' : 256 < z1 := by omega
                  have Hc := hid hc
                  have Hat4 := hid hat4
                  clear hc hat4
                  go_wp2_with fail
                  go_meet
                  case rel => exact ⟨by rw [Hc.out]; rfl, rfl, HL4.out, Hat4.out, by have := Hc.out; omega⟩
              case rest =>
                obtain ⟨rfl, rfl, hL4, hat4, hcp256⟩ := hcut
                clear HLE Hnum HCP
                have HL4 := hid hL4
                clear hL4
                go_wp2_with fail
                go_loopw [16, 63] (fun av kv wk => ∃ (k : Nat) (at0 : Int) (pA : Option Addr) (pc : Nat) (ps : List Int) (x' : RdM) (s' : St), av = .int .i64 at0 ∧ kv = .int .i64 (k : Int) ∧ k ≤ cntp ∧ ps.length = k ∧ 0 ≤ at0 ∧ at0 ≤ 4294967296 * (k : Int) ∧ x'.at' ≤ x2.at' + 5 + 5 * k ∧
                  Hid (LIn w wk K r m c b9 b15 G (.slice A es.length cp) es d2 (.slice pA ps.length pc) ps x' s') ∧ Hid (((posL (cntp - k) at0 ps x').bind (entC most d2 (cnt - (i + 1)) es (blkC list most n (nb - (b + 1)) b lv))).exec s' = res)) (fun _ kv _ => cntp - (intOf kv).toNat)
                case atStart => exact ⟨0, 0, none, 0, [], x3, s3, rfl, rfl, Nat.zero_le _, rfl, by omega, by omega, by omega, HL4, Hex⟩
                case round =>
                  rename World => wk
                  clear HL4 Hex
                  obtain ⟨k, at0, pA, pc, ps, x', s', rfl, rfl, hk, hpl, ha0, ha1, hxa, HL, HE⟩ := hrel
                  subst hpl
                  by_cases hkc : ps.length < cntp
                  · have hkc' : ((ps.length : Nat) : Int) < (cntp : Int) := by omega
                    have hex := HE.out
                    rw [show cntp - ps.length = (cntp - (ps.length + 1)) + 1 by omega, posL_step] at hex
                    clear HE
                    have hnum := rd_number HL.out.rm b9 x' HL.out.xok (by omega) HL.out.blk (Or.inl (Or.inl (Or.inl (Or.inl (Or.inr rfl)))))
                    generalize (numT x').exec s' = y at *
                    obtain ⟨⟨v1, x4⟩, s4⟩ := y
                    simp only at hnum hex
                    have Hnum := hid hnum
                    have Hex := hid hex
                    clear hnum hex
                    go_wp2_with fail
                    refine Hnum.out.mono ?_
                    rintro e w5 ⟨rfl, hr5, hb5, hx5, ⟨hv0, hv1⟩, hat5, hk5⟩
                    have hL5 := HL.out.num hr5 hb5 hx5 hk5
                    clear hr5 hb5 hx5 hk5 HL Hnum
                    obtain ⟨a2, ha2⟩ : ∃ a2, a2 = at0 + v1 := ⟨_, rfl⟩
                    have hex := Hex.out
                    rw [← ha2] at hex
                    have haa : at0 + v1 = a2 := ha2.symm
                    have hA2 := hid (show 0 ≤ a2 ∧ a2 ≤ 4294967296 * (((ps.length : Nat) : Int) + 1) by omega)
                    have hcell := hL5.eblk.cell 1
                    have hfree := hL5.eblk.free 1
                    simp only [List.getElem?_cons_zero, List.getElem?_cons_succ] at hcell
                    have hb15 : b15 < w5.heap.size := hL5.eblk.lt
                    clear ha2 Hex
                    have Hex := hid hex
                    have HL5 := hid hL5
                    have Hat5 := hid hat5
                    clear hex hL5 hat5
                    obtain ⟨i0, hi, hz0, hz1, hz2⟩ := info_partsF Try.infoF
                    go_wp2_with (at_builtin; refine wpList_append_x rfl _ _ 25 rfl 3 i0 (.int .i64 0) 1 8 Try.underlying25 hi hz0 hz1 hz2 rfl (by decide) (.slice pA ps.length pc) ps.length (ps.map (Value.int .i64)) rfl (HL5.out.pown.alloc _) ⟨w5.heap.size, 0, none⟩ 1 1 [.int .i64 a2] rfl rfl ?_ ?_ ?_ ?_ ?_)
                    · intro j u hj
                      rcases j with _ | j
                      · simpa [Addr.add] using hj
                      · simp at hj
                    · intro u hu; simp at hu; rcases hu with rfl; rfl
                    · unfold maxLen; omega
                    · omega
                    · intro v' w6 hown' hgr hfr
                      obtain ⟨A', cp', hv'⟩ := own_slice0 hown'
                      subst hv'
                      have hL6 := HL5.out.push hown' hgr (by rw [World.size_alloc]; exact hfr)
                      have hE6 : Blk w6 b15 [.int .i64 d2, .slice pA ps.length pc] := (HL5.out.eblk.alloc _).grown hgr (fun e => HL5.out.pNe b15 e.symm (Or.inr rfl))
                      have hc6 := hE6.cell 1
                      simp only [List.getElem?_cons_zero, List.getElem?_cons_succ] at hc6
                      have hf6 := hE6.free 1
                      clear hown' hgr hfr hi hz0 hz1 hz2 hE6 hcell hfree hb15 HL5
                      have HL6 := hid hL6
                      clear hL6
                      go_wp2_with fail
                      go_roundw
                      case rel => exact ⟨ps.length + 1, a2, A', cp', ps ++ [a2], x4, s4, by go_num, by go_num, by omega, by simp, hA2.out.1, by have := hA2.out; omega, by have := Hat5.out; omega, by simpa using HL6, Hex⟩
                      case measure => first | (simp [intOf]; done) | (simp [intOf]; omega)
                  · have hkc' : ¬ ((ps.length : Nat) : Int) < (cntp : Int) := by omega
                    have hex := HE.out
                    rw [show cntp - ps.length = 0 by omega] at hex
                    have hex : (if s'.isOff = true ∨ d2 ≥ most then blkC list most n (nb - (b + 1)) b lv (es, x', true) else (entL most (cnt - (i + 1)) d2 (es ++ [⟨d2, ps⟩]) x').bind (blkC list most n (nb - (b + 1)) b lv)).exec s' = res := hex
                    clear HE
                    have Hex := hid hex
                    clear hex
                    go_wp2_with fail
                    refine (step_off HL.out.rm).mono ?_
                    rintro e w5 ⟨rfl, rfl⟩
                    have hex := Hex.out
                    clear Hex
                    by_cases hst : s'.isOff = true ∨ d2 ≥ most
                    · rw [if_pos hst] at hex
                      have hf : (es, s') = res := hex
                      have Hf := hid hf
                      clear hf
                      clear hex
                      cases ho : s'.isOff with
                      | true =>
                        clear hst ho
                        go_wp2_with fail
                        refine hR'.out _ _ ⟨_, G, rfl, ?_⟩
                        rw [← Hf.out]
                        exact ⟨HL.out.rm.mono (fun y hy => by rcases hy with (hy | hy) | hy; exact Or.inl (Or.inl (Or.inl (Or.inl (Or.inl hy)))); exact Or.inl (Or.inl (Or.inl (Or.inr hy))); exact Or.inl (Or.inl (Or.inr hy))), HL.out.own, fun y hy => ⟨fun e => (HL.out.outNe y hy).1 (Or.inl e), (HL.out.outNe y hy).2⟩, fun y hy e => HL.out.gNe y hy (Or.inl e), HL.out.keeps⟩
                      | false =>
                        have hdm : d2 ≥ most := by rcases hst with h | h; rw [ho] at h; cases h; exact h
                        clear hst ho
                        go_wp2_with fail
                        refine hR'.out _ _ ⟨_, G, rfl, ?_⟩
                        rw [← Hf.out]
                        exact ⟨HL.out.rm.mono (fun y hy => by rcases hy with (hy | hy) | hy; exact Or.inl (Or.inl (Or.inl (Or.inl (Or.inl hy)))); exact Or.inl (Or.inl (Or.inl (Or.inr hy))); exact Or.inl (Or.inl (Or.inr hy))), HL.out.own, fun y hy => ⟨fun e => (HL.out.outNe y hy).1 (Or.inl e), (HL.out.outNe y hy).2⟩, fun y hy e => HL.out.gNe y hy (Or.inl e), HL.out.keeps⟩
                    · rw [if_neg hst] at hex
                      have ho : s'.isOff = false := by cases h : s'.isOff; rfl; exact absurd (Or.inl h) hst
                      have hdm : ¬ d2 ≥ most := fun h => hst (Or.inr h)
                      rw [ho]
                      clear hst ho
                      obtain ⟨cells, ho1, hE1⟩ := HL.out.own
                      have heb := HL.out.eblk
                      have ec0 := (heb).cell 0
                      have ec1 := (heb).cell 1
                      simp only [List.getElem?_cons_zero, List.getElem?_cons_succ] at ec0 ec1
                      have hcl := hE1.len
                      obtain ⟨i0, hi, hz0, hz1, hz2⟩ := info_partsF Try.infoE
                      clear heb
                      have Hex := hid hex
                      have Ho1 := hid ho1
                      have HE1 := hid hE1
                      have Hcl := hid hcl
                      clear hex ho1 hE1 hcl
                      go_wp2_with (at_builtin; refine wpList_append_x rfl _ _ 37 rfl 71 i0 (.agg #[.int .i64 0, .slice none 0 0]) 2 32 Try.underlying37 hi hz0 hz1 hz2 rfl (by decide) (.slice A es.length cp) es.length cells rfl (Ho1.out.alloc _) ⟨wk.heap.size, 0, none⟩ 1 1 [.int .i64 d2, .slice pA ps.length pc] rfl rfl ?_ ?_ ?_ ?_ ?_)
                      · intro j u hj
                        rcases j with _ | j
                        · simpa [Addr.add] using hj
                        · rcases j with _ | j
                          · have hj' : Value.slice pA ps.length pc = u := by simpa using hj
                            rw [← hj']
                            simp [Addr.add, World.cell?_alloc_new]
                          · simp at hj
                      · intro u hu; simp at hu; rcases hu with rfl | rfl <;> rfl
                      · unfold maxLen; omega
                      · omega
                      · intro v' w6 hown' hgr hfr
                        obtain ⟨A', cp', hv'⟩ := own_slice0 hown'
                        subst hv'
                        have hL6 := HL.out.push2 HE1.out hown' hgr (by rw [World.size_alloc]; exact hfr)
                        clear hown' hgr hfr hi hz0 hz1 hz2 ec0 ec1
                        have HL6 := hid hL6
                        clear hL6
                        go_wp2_with fail
                        go_roundw
                        case rel => exact ⟨i + 1, d2, _, A', cp', es ++ [⟨d2, ps⟩], x', s', by first | (simp; done) | go_num, rfl, by go_num, by omega, hD.out.1, by have := hD.out; omega, by simp; omega, by omega, by simpa using HL6, Hex⟩
                        case measure => first | (simp [intOf]; done) | (simp [intOf]; omega)
            · have hic' : ¬ (i : Int) < (cnt : Int) := by omega
              obtain rfl : i = cnt := by omega
              have hex := HE.out
              rw [Nat.sub_self] at hex
              have hex : (blkC list most n (nb - (b + 1)) b lv (es, x', false)).exec s' = res := hex
              unfold blkC at hex
              rw [if_neg (by show ¬ (false = true); decide)] at hex
              clear HE
              by_cases hla : lv / 65536 ≥ wrap64 (most - 1)
              · rw [if_pos hla] at hex
                have hf : (es, s') = res := hex
                have Hf := hid hf
                clear hf
                clear hex
                go_wp2_with fail
                refine hR'.out _ _ ⟨_, G, rfl, ?_⟩
                rw [← Hf.out]
                exact ⟨HL.out.rm.mono (fun y hy => by rcases hy with (hy | hy) | hy; exact Or.inl (Or.inl (Or.inl hy)); exact Or.inl (Or.inr hy); exact Or.inr hy), HL.out.own, fun y hy => ⟨fun e => (HL.out.outNe y hy).1 (Or.inl e), (HL.out.outNe y hy).2⟩, fun y hy e => HL.out.gNe y hy (Or.inl e), HL.out.keeps⟩
              · rw [if_neg hla] at hex
                have Hex := hid hex
                clear hex
                go_wp2_with fail
                go_roundw
                case rel => exact ⟨b + 1, G, A, cp, es, x', s', rfl, by go_num, by omega, by omega, by omega, HL, Hex⟩
                case measure => first | (simp [intOf]; done) | (simp [intOf]; omega)
      · have hlt' : ¬ (b : Int) < ((n : Int) + 3) / 4 := by have := HNB.out; omega
        obtain rfl : b = nb := by omega
        have hex := HE.out
        rw [Nat.sub_self] at hex
        have hf : (es, s') = res := hex
        have Hf := hid hf
        clear hf
        clear hex HE
        go_wp2_with fail
        refine hR'.out _ _ ⟨_, G, rfl, ?_⟩
        rw [← Hf.out]
        exact ⟨HL.out.rm.mono (fun y hy => by rcases hy with (hy | hy) | hy; exact Or.inl (Or.inl (Or.inl hy)); exact Or.inl (Or.inr hy); exact Or.inr hy), HL.out.own, fun y hy => ⟨fun e => (HL.out.outNe y hy).1 (Or.inl e), (HL.out.outNe y hy).2⟩, fun y hy e => HL.out.gNe y hy (Or.inl e), HL.out.keeps⟩
end Go.Proofs.Ytbmgmjfpoepgpaa
