/- The document's layer 17: Parts, the walk. -/
import Derived.Test.YtbepgbkbpkaodaaDoorParts
import Derived.Deep.CutRange
import Derived.Deep.CutBlock
namespace Go.Proofs.YtbepgbkbpkaodaaDoor
open Go.RowKit

def partC (t : Int × ByteArray) : List Value := [.int .i32 t.1, .string t.2]
theorem Tryd.infoPart : (Tryd.prog.info? 46).map (fun i => (i.zero, i.size, i.bytes)) = some (some (.agg #[.int .i32 0, .string ⟨#[]⟩]), 2, 24) := by kernel_rfl
theorem onePart (x : Int × ByteArray) : ∀ u ∈ partC x, u.oneCell' = true := by
  intro u hu
  simp only [partC, List.mem_cons, List.not_mem_nil, or_false] at hu
  rcases hu with rfl | rfl <;> rfl
def PartRow (w0 w : World) (v : Value) (ts : List (Int × ByteArray)) : Prop := w.ownsRow w0.heap.size 46 2 v ts.length (ts.flatMap partC) ∧ Keeps (· < w0.heap.size) w0 w
theorem PartRow.calls {w0 w w' : World} {v : Value} {ts : List (Int × ByteArray)} (h : PartRow w0 w v ts) (k : Keeps (· < w.heap.size) w w') : PartRow w0 w' v ts :=
  ⟨ownB_keepS h.1 k, h.2.trans (k.mono fun b hb => Nat.lt_of_lt_of_le hb h.2.size)⟩
theorem PartRow.push {w0 wr w' : World} {T : TypeId} {v v' : Value} {acc : List (Int × ByteArray)} {x : Int × ByteArray} (h : PartRow w0 wr v acc) (hown : w'.ownsRow w0.heap.size 46 2 v' (acc.length + 1) (acc.flatMap partC ++ partC x)) (hg : (wr.alloc (.cells (partC x).toArray T)).grownBy w' v.ownBlock) : PartRow w0 w' v' (acc ++ [x]) := by
  refine ⟨by rw [List.flatMap_append, List.length_append]; simpa using hown, ?_⟩
  have hB := h.2.size
  exact keeps_grown (h.2.alloc (fun b hb => by omega) _) (by simp; omega) (ownB_keepS h.1 ((Keeps.refl _ _).alloc (fun b hb => hb) _)) hg
theorem PartRow.back {w0 w1 w : World} {v : Value} {ts : List (Int × ByteArray)} (h : PartRow w1 w v ts) (k : Keeps (· < w0.heap.size) w0 w1) : PartRow w0 w v ts := by
  have := k.size
  exact ⟨own_back h.1 this, k.trans (h.2.mono fun b hb => by omega)⟩

set_option maxRecDepth 100000 in
set_option maxHeartbeats 16000000 in
theorem ref17_parts (s : ByteArray) (hs : s.size ≤ 1000) (w : World) : Calls Tryd.prog 16 #[.string s] w fun e w' => ∃ v, e = .returned v ∧ PartRow w w' v (partsR (runesS s)) := by
  refine calls_hide fun R' hR' => ?_
  go_enter Tryd.func16, Tryd.ntmps16
  go_wp2_with fail
  refine (ref4_runes s (by omega) w).mono ?_
  rintro e w1 ⟨v, rfl, hN⟩
  obtain ⟨A, cp, rfl⟩ := ownB_form hN.1
  have hrl : (runesS s).length ≤ 1000 := Nat.le_trans (runesF_len s s.size 0) hs
  have hrb : ∀ r ∈ runesS s, 0 ≤ r ∧ r ≤ 1114111 := runesF_bound s s.size 0
  generalize hal : partsR (runesS s) = al at *
  generalize runesS s = rs at *
  have hform : (A = none ∧ cp = 0 ∧ rs.length = 0) ∨ ∃ g, A = some ⟨g, 0, none⟩ := by
    rcases hN.1.2 with ⟨h1, h2⟩ | ⟨g, cap, _, h1, _⟩
    · injection h1 with h1 h3 h4
      exact Or.inl ⟨h1, h4, h2⟩
    · injection h1 with h1 h3 h4
      exact Or.inr ⟨g, h1⟩
  have hS := ownB_slAt hN.1
  have hkw := hN.2
  have hP0 : PartRow w1 (w1.alloc (.cells #[] 46)) (.slice (some ⟨w1.heap.size, 0, none⟩) 0 0) [] := ⟨own_lit w1 w1.heap.size _ _ 2 0 [] rfl (by simp) (Nat.zero_le _) (Nat.le_refl _), (Keeps.refl _ _).alloc (fun b hb => hb) _⟩
  have Hrb := hid hrb
  have Hal := hid hal
  have HS := hid hS
  have Hkw := hid hkw
  have HP0 := hid hP0
  have Hform := hid hform
  clear hrb hal hS hkw hP0 hform
  clear hN
  go_wp2_with fail
  go_loopw [4, 5] (fun ov iv wr => ∃ (i : Nat) (acc : List (Int × ByteArray)) (A2 : Option Addr) (c2 : Nat), ov = .slice A2 acc.length c2 ∧ iv = .int .i64 (i : Int) ∧ i ≤ rs.length ∧ acc.length ≤ i ∧ Hid (PartRow w1 wr (.slice A2 acc.length c2) acc) ∧ Hid (acc ++ partsR (rs.drop i) = al)) (fun _ iv _ => rs.length - (intOf iv).toNat)
  case atStart => exact ⟨0, [], some ⟨w1.heap.size, 0, none⟩, 0, rfl, rfl, Nat.zero_le _, Nat.le_refl _, HP0, hid Hal.out⟩
  case round =>
    clear HP0
    obtain ⟨i, acc, A2, c2, rfl, rfl, hi, hai, HP, HE⟩ := hrel
    by_cases hlt : i < rs.length
    · have hltI : (i : Int) < (rs.length : Int) := by omega
      obtain ⟨r, hr⟩ : ∃ r, rs[i]? = some r := ⟨_, List.getElem?_eq_getElem hlt⟩
      obtain ⟨hr0, hr1⟩ := Hrb.out r (List.mem_of_getElem? hr)
      obtain ⟨g, rfl⟩ : ∃ g, A = some ⟨g, 0, none⟩ := by
        rcases Hform.out with ⟨_, _, h0⟩ | h
        · omega
        · exact h
      have hSr := HS.out.keep HP.out.2 (fun b hb => hb.2)
      obtain ⟨hcap1, hcap2⟩ := SlAt.capOf hSr
      unfold maxLen at hcap2
      obtain ⟨b, off, c9, hv, hb, hc⟩ := hSr.get i r hr
      injection hv with hA _ h3
      injection hA with hA
      injection hA with hA1 hA2
      subst hA1 h3
      have hA2 : off = 0 := hA2.symm
      subst hA2
      rw [Nat.zero_add] at hc
      have hd : rs.drop i = r :: rs.drop (i + 1) := by
        obtain ⟨h9, h8⟩ := List.getElem?_eq_some_iff.1 hr
        rw [List.drop_eq_getElem_cons h9, h8]
      have hex := HE.out
      rw [hd, partsR_cons, ← hd] at hex
      obtain ⟨n, hn⟩ : ∃ n, n = ((rs.drop i).takeWhile isW).length := ⟨_, rfl⟩
      have htk : (rs.drop i).takeWhile isW = (rs.drop i).take n := by rw [hn]; exact List.prefix_iff_eq_take.1 (List.takeWhile_prefix isW)
      have hdk : (rs.drop i).dropWhile isW = rs.drop (i + n) := by rw [hn, ← List.drop_drop, drop_tw]
      have hni : i + n ≤ rs.length := by
        have := congrArg List.length htk
        rw [List.length_take, List.length_drop] at this
        omega
      have hwn : isW r = decide (0 < n) := by
        rw [hn, hd]
        by_cases hw : isW r = true
        · rw [List.takeWhile_cons_of_pos hw, hw]; simp
        · rw [List.takeWhile_cons_of_neg hw]; simpa using hw
      have hfq : fieldQ (rs.drop i) = decide (n = 1 ∧ 48 ≤ r ∧ r ≤ 51 ∧ rs[i + n]? = some 58) := by
        unfold fieldQ
        rw [← hn, hdk, head_drop, head_drop, hr]; rfl
      rw [hfq, hwn, htk, hdk] at hex
      clear HE
      have HSr := hid hSr
      have Hex := hid hex
      have Hfq := hid hfq
      have Hwn := hid hwn
      have Hd := hid hd
      have Hr := hid hr
      clear hSr hex hfq hwn hd hr
      go_wp2_with fail
      refine (ref17_word rs (by omega) Hrb.out (some ⟨g, 0, none⟩) cp i (by omega) wr _ HSr.out).mono ?_
      rintro e w3 ⟨rfl, rfl⟩
      rw [← hn]
      have Hn := hid hn
      have Htk := hid htk
      have Hdk := hid hdk
      clear hn htk hdk
      go_upto_region 9 with fail
      obtain ⟨fq, hfqe⟩ : ∃ q : Bool, q = decide (n = 1 ∧ 48 ≤ r ∧ r ≤ 51 ∧ rs[i + n]? = some 58) := ⟨_, rfl⟩
      go_cut [28] from 29 to 53 (fun bv wx => bv = .bool fq ∧ wr = wx)
      case first =>
        by_cases n1 : n = 1
        · have b1 : ((n : Int) == 1) = true := by simp [n1]
          by_cases r1 : 48 ≤ r
          · by_cases r2 : r ≤ 51
            · by_cases l1 : i + 1 < rs.length
              · have l1I : (i : Int) + 1 < (rs.length : Int) := by omega
                obtain ⟨q, hq⟩ : ∃ q, rs[i + 1]? = some q := ⟨_, List.getElem?_eq_getElem l1⟩
                obtain ⟨b9, o9, c9, hv9, hb9, hc9⟩ := HSr.out.get (i + 1) q hq
                injection hv9 with hv9 hx1 hx2
                clear hx1 hx2
                injection hv9 with hv9
                injection hv9 with hA1 hA2
                subst hA1
                have hA2 : o9 = 0 := hA2.symm
                subst hA2
                rw [Nat.zero_add] at hc9
                by_cases q58 : q = 58
                · have b58 : (q == 58) = true := by simp [q58]
                  have hfv : fq = true := by rw [hfqe]; exact decide_eq_true ⟨n1, r1, r2, by rw [n1, hq, q58]⟩
                  clear hfqe n1 q58 hq
                  go_wp2_with fail
                  go_meet
                  case rel => exact ⟨by rw [hfv], rfl⟩
                · have b58 : (q == 58) = false := by simpa using q58
                  have hfv : fq = false := by
                    rw [hfqe]
                    refine decide_eq_false fun h => ?_
                    have h4 := h.2.2.2
                    rw [n1, hq] at h4
                    injection h4 with h4
                    exact q58 h4
                  clear hfqe n1 q58 hq
                  go_wp2_with fail
                  go_meet
                  case rel => exact ⟨by rw [hfv], rfl⟩
              · have l1I : ¬ (i : Int) + 1 < (rs.length : Int) := by omega
                have hfv : fq = false := by
                  rw [hfqe]
                  refine decide_eq_false fun h => ?_
                  have h4 := h.2.2.2
                  rw [n1, List.getElem?_eq_none (by omega)] at h4
                  cases h4
                clear hfqe n1
                go_wp2_with fail
                go_meet
                case rel => exact ⟨by rw [hfv], rfl⟩
            · have hfv : fq = false := by rw [hfqe]; exact decide_eq_false fun h => r2 h.2.2.1
              clear hfqe n1
              go_wp2_with fail
              go_meet
              case rel => exact ⟨by rw [hfv], rfl⟩
          · have hfv : fq = false := by rw [hfqe]; exact decide_eq_false fun h => r1 h.2.1
            clear hfqe n1
            go_wp2_with fail
            go_meet
            case rel => exact ⟨by rw [hfv], rfl⟩
        · have b1 : ((n : Int) == 1) = false := by simp; omega
          have hfv : fq = false := by rw [hfqe]; exact decide_eq_false fun h => n1 h.1
          clear hfqe n1
          go_wp2_with fail
          go_meet
          case rel => exact ⟨by rw [hfv], rfl⟩
      case rest =>
        obtain ⟨rfl, rfl⟩ := hcut
        have hex := Hex.out
        rw [← hfqe] at hex
        clear Hex
        cases fq with
        | true =>
          rw [if_pos rfl] at hex
          obtain ⟨n1, r1, r2, h58⟩ := of_decide_eq_true hfqe.symm
          have hl1 : i + 2 ≤ rs.length := by
            rw [n1] at h58
            have := (List.getElem?_eq_some_iff.1 h58).1
            omega
          have hu8 := u8v_of r.toNat (by omega)
          rw [show ((r.toNat : Nat) : Int) = r by omega] at hu8
          have hF : fieldT r = ⟨#[UInt8.ofNat r.toNat]⟩ := rfl
          have hex2 : (acc ++ [(102, fieldT r)]) ++ partsR (rs.drop (i + 2)) = al := by
            rw [← hex, ← List.drop_one, List.drop_drop, n1]; simp
          have hNB := NewB.lit wr [UInt8.ofNat r.toNat] 1 5 rfl rfl (by decide)
          have hPc := hid (HP.out.calls ((Keeps.refl _ _).alloc (fun b hb => hb) (.cells #[.int .u8 r] 5)))
          rw [List.map_cons, List.map_nil, hu8] at hNB
          have hcv := conv_own (P := Tryd.prog) Tryd.underlying67 Tryd.underlying5 Tryd.underlying9 (bs := [UInt8.ofNat r.toNat]) hNB.1
          have hcv : (convert 67 9 (.slice (some ⟨wr.heap.size, 0, none⟩) 1 1)).run Tryd.prog (wr.alloc (.cells #[.int .u8 r] 5)) = .ok (.string (fieldT r)) (wr.alloc (.cells #[.int .u8 r] 5)) := hcv
          generalize fieldT r = ft at *
          have hwr := HP.out.2.size
          clear hfqe n1 h58 hNB hF hu8 hex HP
          have Hex2 := hid hex2
          clear hex2
          have hnews : ∀ j u, [Value.int .i32 102, .string ft][j]? = some u → ((wr.alloc (.cells #[.int .u8 r] 5)).alloc (.cells #[.int .i32 102, .string ft] 46)).cell? ((⟨wr.heap.size + 1, 0, none⟩ : Addr).add j) = some u := by
            have := own_newsS (own_lit (wr.alloc (.cells #[.int .u8 r] 5)) 0 46 46 2 1 [.int .i32 102, .string ft] rfl rfl (by decide) (Nat.zero_le _))
            rw [World.size_alloc] at this
            exact this
          have Hnews := hid hnews
          clear hnews
          obtain ⟨i0, hi, hz0, hz1, hz2⟩ := info_partsF Tryd.infoPart
          go_wp2_with (at_builtin; go_must (refine wpList_append_own_at _ rfl _ _ 43 rfl (w1.heap.size) 46 i0 (.agg #[.int .i32 0, .string ⟨#[]⟩]) 2 24 Tryd.underlying43 hi hz0 hz1 hz2 rfl (by decide) (.slice A2 acc.length c2) acc.length (acc.flatMap partC) rfl (ownB_keepS hPc.out.1 ((Keeps.refl _ _).alloc (fun b hb => hb) _)) ⟨wr.heap.size + 1, 0, none⟩ 1 1 [.int .i32 102, .string ft] rfl (by simp) Hnews.out ?_ ?_ ?_ ?_ ?_))
          all_goals (try (first | with_reducible exact one1 _ _ | with_reducible exact one2 _ _ _ | with_reducible exact one4 _ _ _ _ _ | with_reducible exact oneM _ _ | exact rfl | exact fun _ _ => rfl | exact ⟨rfl, rfl⟩ | exact ⟨rfl, rfl, rfl⟩ | exact ⟨rfl, rfl, rfl, rfl⟩ | (unfold maxLen; omega) | omega | (simp; omega) | (simp; done)))
          (try clear hi)
          (try clear hz0)
          (try clear hz1)
          (try clear hz2)
          all_goals (try (first | exact onePart (102, ft) | (have hle9 := hPc.out.2.size; rw [World.size_alloc] at *; omega)))
          intro v' w7 hown hgr _ hf
          have hN := hPc.out.push (x := (102, ft)) hown hgr
          obtain ⟨A', cp', rfl⟩ := ownB_form hown
          clear hown hgr hf hPc
          have HN := hid hN
          clear hN
          go_wp2_with fail
          go_roundw
          case rel => exact ⟨i + 2, acc ++ [(102, ft)], A', cp', by simp, by go_num, by omega, by simp; omega, by simpa using HN, Hex2⟩
          case measure => first | (simp [intOf]; done) | (simp [intOf]; omega)
        | false =>
          rw [if_neg (by decide)] at hex
          clear hfqe
          by_cases hn0 : 0 < n
          · rw [if_pos (decide_eq_true hn0)] at hex
            have hnI : 0 < (n : Int) := by omega
            have hLl : ((rs.drop i).take n).length = n := by rw [List.length_take, List.length_drop]; omega
            have hLr : ∀ r ∈ (rs.drop i).take n, -2147483648 ≤ r ∧ r ≤ 2147483647 := fun x hx => by
              have := Hrb.out x (List.mem_of_mem_drop (List.mem_of_mem_take hx))
              omega
            have hsub := SlAt.sub (i := i) (j := i + n) HSr.out (by omega) hni
            rw [Nat.add_sub_cancel_left] at hsub
            have htx := ref4_text ((rs.drop i).take n) (by omega) hLr (some ⟨g, i, none⟩) (cp - i) wr (fun b => w.heap.size ≤ b ∧ b < w1.heap.size) (fun b hb => Nat.lt_of_lt_of_le hb.2 HP.out.2.size) (by rw [hLl]; exact hsub)
            rw [hLl] at htx
            generalize textS ((rs.drop i).take n) = tx at *
            have hex2 : (acc ++ [(119, tx)]) ++ partsR (rs.drop (i + n)) = al := by rw [← hex]; simp
            have hci : ¬ (i : Int) = (cp : Int) := by omega
            have hciN : ¬ i = cp := by omega
            have hcin : i + n ≤ cp := by omega
            clear hex hLr hLl hsub
            have Hex2 := hid hex2
            have Htx := hid htx
            clear hex2 htx
            go_wp2_with fail
            refine Htx.out.mono ?_
            rintro e w5 ⟨rfl, hk5⟩
            have hP5 := HP.out.calls hk5
            have hs5 := hk5.size
            clear HP hk5 Htx
            have HP5 := hid hP5
            clear hP5
            obtain ⟨i0, hi, hz0, hz1, hz2⟩ := info_partsF Tryd.infoPart
            go_wp2_with (at_builtin; go_must (refine wpList_append_own_at _ rfl _ _ 43 rfl (w1.heap.size) 46 i0 (.agg #[.int .i32 0, .string ⟨#[]⟩]) 2 24 Tryd.underlying43 hi hz0 hz1 hz2 rfl (by decide) (.slice A2 acc.length c2) acc.length (acc.flatMap partC) rfl (ownB_keepS HP5.out.1 ((Keeps.refl _ _).alloc (fun b hb => hb) _)) ⟨w5.heap.size, 0, none⟩ 1 1 [.int .i32 119, .string tx] rfl (by simp) (own_newsS (own_lit w5 0 _ _ 2 1 [.int .i32 119, .string tx] rfl rfl (by decide) (Nat.zero_le _))) ?_ ?_ ?_ ?_ ?_))
            all_goals (try (first | with_reducible exact one1 _ _ | with_reducible exact one2 _ _ _ | with_reducible exact one4 _ _ _ _ _ | with_reducible exact oneM _ _ | exact rfl | exact fun _ _ => rfl | exact ⟨rfl, rfl⟩ | exact ⟨rfl, rfl, rfl⟩ | exact ⟨rfl, rfl, rfl, rfl⟩ | (unfold maxLen; omega) | omega | (simp; omega) | (simp; done)))
            (try clear hi)
            (try clear hz0)
            (try clear hz1)
            (try clear hz2)
            all_goals (try (first | exact onePart (119, tx) | (have hle9 := HP5.out.2.size; rw [World.size_alloc]; omega)))
            intro v' w7 hown hgr _ hf
            have hN := HP5.out.push (x := (119, tx)) hown hgr
            obtain ⟨A', cp', rfl⟩ := ownB_form hown
            clear hown hgr hf HP5
            have HN := hid hN
            clear hN
            go_wp2_with fail
            go_roundw
            case rel => exact ⟨i + n, acc ++ [(119, tx)], A', cp', by simp, by go_num, by omega, by simp; omega, by simpa using HN, Hex2⟩
            case measure => first | (simp [intOf]; done) | (simp [intOf]; omega)
          · rw [if_neg (by rw [decide_eq_false hn0]; decide)] at hex
            obtain rfl : n = 0 := by omega
            have hnI : ¬ 0 < ((0 : Nat) : Int) := by decide
            have Hex := hid hex
            clear hex
            go_upto_region 15 with fail
            obtain ⟨qb, hqb⟩ : ∃ q : Bool, q = isBl r := ⟨_, rfl⟩
            go_cut [81] from 82 to 95 (fun bv wx => bv = .bool qb ∧ wr = wx)
            case first =>
              by_cases e0 : r = 32
              · have t0 : (r == 32) = true := by simp [e0]
                have hq : qb = true := by rw [hqb, e0]; rfl
                clear hqb e0
                go_wp2_with fail
                go_meet
                case rel => exact ⟨by rw [hq], rfl⟩
              have t0 : (r == 32) = false := by simpa using e0
              by_cases e1 : r = 9
              · have t1 : (r == 9) = true := by simp [e1]
                have hq : qb = true := by rw [hqb, e1]; rfl
                clear hqb e1
                go_wp2_with fail
                go_meet
                case rel => exact ⟨by rw [hq], rfl⟩
              have t1 : (r == 9) = false := by simpa using e1
              by_cases e2 : r = 10
              · have t2 : (r == 10) = true := by simp [e2]
                have hq : qb = true := by rw [hqb, e2]; rfl
                clear hqb e2
                go_wp2_with fail
                go_meet
                case rel => exact ⟨by rw [hq], rfl⟩
              have t2 : (r == 10) = false := by simpa using e2
              by_cases e3 : r = 13
              · have t3 : (r == 13) = true := by simp [e3]
                have hq : qb = true := by rw [hqb, e3]; rfl
                clear hqb e3
                go_wp2_with fail
                go_meet
                case rel => exact ⟨by rw [hq], rfl⟩
              have t3 : (r == 13) = false := by simpa using e3
              have hq : qb = false := by rw [hqb]; unfold isBl; rw [t0, t1, t2, t3]; rfl
              clear hqb
              go_wp2_with fail
              go_meet
              case rel => exact ⟨by rw [hq], rfl⟩
            case rest =>
              obtain ⟨rfl, rfl⟩ := hcut
              have hex := Hex.out
              rw [← hqb] at hex
              clear Hex
              cases qb with
              | true =>
                rw [if_pos rfl] at hex
                clear hqb
                have Hex := hid hex
                clear hex
                go_wp2_with fail
                go_roundw
                case rel => exact ⟨i + 1, acc, A2, c2, rfl, by go_num, by omega, by omega, HP, Hex⟩
                case measure => first | (simp [intOf]; done) | (simp [intOf]; omega)
              | false =>
                rw [if_neg (by decide)] at hex
                clear hqb
                by_cases h34 : r = 34
                · have b34 : (r == 34) = true := by simp [h34]
                  rw [if_pos h34] at hex
                  clear h34
                  have Hex := hid hex
                  clear hex
                  go_wp2_with fail
                  obtain ⟨wq, hwq⟩ : ∃ x, x = wr := ⟨_, rfl⟩
                  go_loopw [8] (fun kv wx => ∃ k : Nat, kv = .int .i64 (k : Int) ∧ i + 1 ≤ k ∧ k ≤ rs.length ∧ wq = wx ∧ Hid ((rs.drop (i + 1)).dropWhile (· != 34) = (rs.drop k).dropWhile (· != 34)) ∧ Hid ((rs.drop (i + 1)).takeWhile (· != 34) = (rs.drop (i + 1)).take (k - (i + 1)) ++ (rs.drop k).takeWhile (· != 34))) (fun kv _ => rs.length - (intOf kv).toNat)
                  case atStart => exact ⟨i + 1, by go_num, Nat.le_refl _, by omega, hwq, hid rfl, hid (by simp)⟩
                  case round =>
                    obtain ⟨k, rfl, hik, hkn, rfl, HD, HW⟩ := hrel
                    subst hwq
                    have hwr := HP.out.2.size
                    by_cases hkl : k < rs.length
                    · have hklI : (k : Int) < (rs.length : Int) := by omega
                      have hkne : ((k : Int) == (rs.length : Int)) = false := by simp; omega
                      obtain ⟨q, hq⟩ : ∃ q, rs[k]? = some q := ⟨_, List.getElem?_eq_getElem hkl⟩
                      obtain ⟨b9, o9, c9, hv9, hb9, hc9⟩ := HSr.out.get k q hq
                      injection hv9 with hv9 hx1 hx2
                      clear hx1 hx2
                      injection hv9 with hv9
                      injection hv9 with hA1 hA2
                      subst hA1
                      have hA2 : o9 = 0 := hA2.symm
                      subst hA2
                      rw [Nat.zero_add] at hc9
                      have hdq : rs.drop k = q :: rs.drop (k + 1) := by
                        obtain ⟨h9, h8⟩ := List.getElem?_eq_some_iff.1 hq
                        rw [List.drop_eq_getElem_cons h9, h8]
                      have hD := HD.out
                      have hW := HW.out
                      rw [hdq] at hD hW
                      clear HD HW
                      by_cases q34 : q = 34
                      · have bq : (q != 34) = false := by simp [q34]
                        rw [List.dropWhile_cons_of_neg (by simp [q34])] at hD
                        rw [List.takeWhile_cons_of_neg (by simp [q34]), List.append_nil] at hW
                        have hex := Hex.out
                        rw [hD, hW, if_neg (by simp)] at hex
                        clear Hex hD hW q34 hq hdq
                        obtain ⟨m, hm⟩ : ∃ m, m = k - (i + 1) := ⟨_, rfl⟩
                        rw [← hm] at hex
                        have hLl : ((rs.drop (i + 1)).take m).length = m := by rw [List.length_take, List.length_drop]; omega
                        have hLr : ∀ r ∈ (rs.drop (i + 1)).take m, -2147483648 ≤ r ∧ r ≤ 2147483647 := fun x hx => by
                          have := Hrb.out x (List.mem_of_mem_drop (List.mem_of_mem_take hx))
                          omega
                        have hsub := SlAt.sub (i := i + 1) (j := k) HSr.out hik hkn
                        rw [← hm] at hsub
                        have htx := ref4_text ((rs.drop (i + 1)).take m) (by omega) hLr (some ⟨g, i + 1, none⟩) (cp - (i + 1)) wq (fun b => w.heap.size ≤ b ∧ b < w1.heap.size) (fun b hb => Nat.lt_of_lt_of_le hb.2 HP.out.2.size) (by rw [hLl]; exact hsub)
                        rw [hLl] at htx
                        generalize textS ((rs.drop (i + 1)).take m) = tx at *
                        have hex2 : (acc ++ [(112, tx)]) ++ partsR (rs.drop (k + 1)) = al := by rw [← hex]; simp
                        have hci : ¬ (i : Int) + 1 = (cp : Int) := by omega
                        have hciN : ¬ i + 1 = cp := by omega
                        have hcin : k ≤ cp := by omega
                        have hikI : (i : Int) + 1 ≤ (k : Int) := by omega
                        rw [hm] at htx
                        clear hex hLr hLl hsub hm
                        have Hex2 := hid hex2
                        have Htx := hid htx
                        clear hex2 htx
                        go_wp2_with fail
                        refine Htx.out.mono ?_
                        rintro e w5 ⟨rfl, hk5⟩
                        have hP5 := HP.out.calls hk5
                        have hs5 := hk5.size
                        clear HP hk5 Htx
                        have HP5 := hid hP5
                        clear hP5
                        obtain ⟨i0, hi, hz0, hz1, hz2⟩ := info_partsF Tryd.infoPart
                        go_wp2_with (at_builtin; go_must (refine wpList_append_own_at _ rfl _ _ 43 rfl (w1.heap.size) 46 i0 (.agg #[.int .i32 0, .string ⟨#[]⟩]) 2 24 Tryd.underlying43 hi hz0 hz1 hz2 rfl (by decide) (.slice A2 acc.length c2) acc.length (acc.flatMap partC) rfl (ownB_keepS HP5.out.1 ((Keeps.refl _ _).alloc (fun b hb => hb) _)) ⟨w5.heap.size, 0, none⟩ 1 1 [.int .i32 112, .string tx] rfl (by simp) (own_newsS (own_lit w5 0 _ _ 2 1 [.int .i32 112, .string tx] rfl rfl (by decide) (Nat.zero_le _))) ?_ ?_ ?_ ?_ ?_))
                        all_goals (try (first | with_reducible exact one1 _ _ | with_reducible exact one2 _ _ _ | with_reducible exact one4 _ _ _ _ _ | with_reducible exact oneM _ _ | exact rfl | exact fun _ _ => rfl | exact ⟨rfl, rfl⟩ | exact ⟨rfl, rfl, rfl⟩ | exact ⟨rfl, rfl, rfl, rfl⟩ | (unfold maxLen; omega) | omega | (simp; omega) | (simp; done)))
                        (try clear hi)
                        (try clear hz0)
                        (try clear hz1)
                        (try clear hz2)
                        all_goals (try (first | exact onePart (112, tx) | (have hle9 := HP5.out.2.size; rw [World.size_alloc]; omega)))
                        intro v' w7 hown hgr _ hf
                        have hN := HP5.out.push (x := (112, tx)) hown hgr
                        obtain ⟨A', cp', rfl⟩ := ownB_form hown
                        clear hown hgr hf HP5
                        have HN := hid hN
                        clear hN
                        go_wp2_with fail
                        go_roundw
                        case rel => exact ⟨k + 1, acc ++ [(112, tx)], A', cp', by simp, by go_num, by omega, by simp; omega, by simpa using HN, Hex2⟩
                        case measure => first | (simp [intOf]; done) | (simp [intOf]; omega)
                      · have bq : (q != 34) = true := by simpa using q34
                        rw [List.dropWhile_cons_of_pos (by simpa using q34)] at hD
                        rw [List.takeWhile_cons_of_pos (by simpa using q34)] at hW
                        have hW2 : (rs.drop (i + 1)).takeWhile (· != 34) = (rs.drop (i + 1)).take (k + 1 - (i + 1)) ++ (rs.drop (k + 1)).takeWhile (· != 34) := by
                          rw [hW, show k + 1 - (i + 1) = (k - (i + 1)) + 1 by omega, List.take_add_one, List.getElem?_drop, show i + 1 + (k - (i + 1)) = k by omega, hq]
                          simp
                        clear q34 hq hdq hW
                        have HD := hid hD
                        have HW2 := hid hW2
                        clear hD hW2
                        go_wp2_with fail
                        go_roundw
                        case rel => exact ⟨k + 1, by go_num, by omega, by omega, by first | trivial | rfl, HD, HW2⟩
                        case measure => first | (simp [intOf]; done) | (simp [intOf]; omega)
                    · obtain rfl : k = rs.length := by omega
                      have hklI : ¬ (rs.length : Int) < (rs.length : Int) := by omega
                      have hkne : ((rs.length : Int) == (rs.length : Int)) = true := by simp
                      have hD := HD.out
                      rw [List.drop_eq_nil_of_le (Nat.le_refl _)] at hD
                      have hex := Hex.out
                      rw [hD, List.dropWhile_nil, if_pos rfl] at hex
                      clear Hex HD HW hD
                      have Hex2 := hid hex
                      clear hex
                      obtain ⟨i0, hi, hz0, hz1, hz2⟩ := info_partsF Tryd.infoPart
                      go_wp2_with (at_builtin; go_must (refine wpList_append_own_at _ rfl _ _ 43 rfl (w1.heap.size) 46 i0 (.agg #[.int .i32 0, .string ⟨#[]⟩]) 2 24 Tryd.underlying43 hi hz0 hz1 hz2 rfl (by decide) (.slice A2 acc.length c2) acc.length (acc.flatMap partC) rfl (ownB_keepS HP.out.1 ((Keeps.refl _ _).alloc (fun b hb => hb) _)) ⟨wq.heap.size, 0, none⟩ 1 1 [.int .i32 120, .string ⟨#[]⟩] rfl (by simp) (own_newsS (own_lit wq 0 _ _ 2 1 [.int .i32 120, .string ⟨#[]⟩] rfl rfl (by decide) (Nat.zero_le _))) ?_ ?_ ?_ ?_ ?_))
                      all_goals (try (first | with_reducible exact one1 _ _ | with_reducible exact one2 _ _ _ | with_reducible exact one4 _ _ _ _ _ | with_reducible exact oneM _ _ | exact rfl | exact fun _ _ => rfl | exact ⟨rfl, rfl⟩ | exact ⟨rfl, rfl, rfl⟩ | exact ⟨rfl, rfl, rfl, rfl⟩ | (unfold maxLen; omega) | omega | (simp; omega) | (simp; done)))
                      (try clear hi)
                      (try clear hz0)
                      (try clear hz1)
                      (try clear hz2)
                      all_goals (try (first | exact onePart (120, ⟨#[]⟩) | (have hle9 := HP.out.2.size; rw [World.size_alloc]; omega)))
                      intro v' w7 hown hgr _ hf
                      have hN := HP.out.push (x := (120, ⟨#[]⟩)) hown hgr
                      obtain ⟨A', cp', rfl⟩ := ownB_form hown
                      clear hown hgr hf HP
                      have HN := hid hN
                      clear hN
                      go_wp2_with fail
                      exact hR'.out _ _ ⟨_, rfl, by rw [← Hex2.out]; exact HN.out.back Hkw.out⟩
                · have b34 : (r == 34) = false := by simpa using h34
                  rw [if_neg h34] at hex
                  clear h34
                  have Hex := hid hex
                  clear hex
                  go_upto_region 26 with fail
                  obtain ⟨qs, hqs⟩ : ∃ q : Bool, q = signQ r := ⟨_, rfl⟩
                  go_cut [137] from 138 to 163 (fun bv wx => bv = .bool qs ∧ wr = wx)
                  case first =>
                    by_cases e0 : r = 40
                    · have t0 : (r == 40) = true := by simp [e0]
                      have hq : qs = true := by rw [hqs, e0]; rfl
                      clear hqs e0
                      go_wp2_with fail
                      go_meet
                      case rel => exact ⟨by rw [hq], rfl⟩
                    have t0 : (r == 40) = false := by simpa using e0
                    by_cases e1 : r = 41
                    · have t1 : (r == 41) = true := by simp [e1]
                      have hq : qs = true := by rw [hqs, e1]; rfl
                      clear hqs e1
                      go_wp2_with fail
                      go_meet
                      case rel => exact ⟨by rw [hq], rfl⟩
                    have t1 : (r == 41) = false := by simpa using e1
                    by_cases e2 : r = 38
                    · have t2 : (r == 38) = true := by simp [e2]
                      have hq : qs = true := by rw [hqs, e2]; rfl
                      clear hqs e2
                      go_wp2_with fail
                      go_meet
                      case rel => exact ⟨by rw [hq], rfl⟩
                    have t2 : (r == 38) = false := by simpa using e2
                    by_cases e3 : r = 124
                    · have t3 : (r == 124) = true := by simp [e3]
                      have hq : qs = true := by rw [hqs, e3]; rfl
                      clear hqs e3
                      go_wp2_with fail
                      go_meet
                      case rel => exact ⟨by rw [hq], rfl⟩
                    have t3 : (r == 124) = false := by simpa using e3
                    by_cases e4 : r = 33
                    · have t4 : (r == 33) = true := by simp [e4]
                      have hq : qs = true := by rw [hqs, e4]; rfl
                      clear hqs e4
                      go_wp2_with fail
                      go_meet
                      case rel => exact ⟨by rw [hq], rfl⟩
                    have t4 : (r == 33) = false := by simpa using e4
                    by_cases e5 : r = 35
                    · have t5 : (r == 35) = true := by simp [e5]
                      have hq : qs = true := by rw [hqs, e5]; rfl
                      clear hqs e5
                      go_wp2_with fail
                      go_meet
                      case rel => exact ⟨by rw [hq], rfl⟩
                    have t5 : (r == 35) = false := by simpa using e5
                    by_cases e6 : r = 64
                    · have t6 : (r == 64) = true := by simp [e6]
                      have hq : qs = true := by rw [hqs, e6]; rfl
                      clear hqs e6
                      go_wp2_with fail
                      go_meet
                      case rel => exact ⟨by rw [hq], rfl⟩
                    have t6 : (r == 64) = false := by simpa using e6
                    have hq : qs = false := by rw [hqs]; unfold signQ; rw [t0, t1, t2, t3, t4, t5, t6]; rfl
                    clear hqs
                    go_wp2_with fail
                    go_meet
                    case rel => exact ⟨by rw [hq], rfl⟩
                  case rest =>
                    obtain ⟨rfl, rfl⟩ := hcut
                    have hex := Hex.out
                    rw [← hqs] at hex
                    clear Hex hqs
                    have hwr := HP.out.2.size
                    cases qs with
                    | true =>
                      rw [if_pos rfl] at hex
                      have hex2 : (acc ++ [(r, ⟨#[]⟩)]) ++ partsR (rs.drop (i + 1)) = al := by rw [← hex]; simp
                      clear hex
                      have Hex2 := hid hex2
                      clear hex2
                      obtain ⟨i0, hi, hz0, hz1, hz2⟩ := info_partsF Tryd.infoPart
                      go_wp2_with (at_builtin; go_must (refine wpList_append_own_at _ rfl _ _ 43 rfl (w1.heap.size) 46 i0 (.agg #[.int .i32 0, .string ⟨#[]⟩]) 2 24 Tryd.underlying43 hi hz0 hz1 hz2 rfl (by decide) (.slice A2 acc.length c2) acc.length (acc.flatMap partC) rfl (ownB_keepS HP.out.1 ((Keeps.refl _ _).alloc (fun b hb => hb) _)) ⟨wr.heap.size, 0, none⟩ 1 1 [.int .i32 r, .string ⟨#[]⟩] rfl (by simp) (own_newsS (own_lit wr 0 _ _ 2 1 [.int .i32 r, .string ⟨#[]⟩] rfl rfl (by decide) (Nat.zero_le _))) ?_ ?_ ?_ ?_ ?_))
                      all_goals (try (first | with_reducible exact one1 _ _ | with_reducible exact one2 _ _ _ | with_reducible exact one4 _ _ _ _ _ | with_reducible exact oneM _ _ | exact rfl | exact fun _ _ => rfl | exact ⟨rfl, rfl⟩ | exact ⟨rfl, rfl, rfl⟩ | exact ⟨rfl, rfl, rfl, rfl⟩ | (unfold maxLen; omega) | omega | (simp; omega) | (simp; done)))
                      (try clear hi)
                      (try clear hz0)
                      (try clear hz1)
                      (try clear hz2)
                      all_goals (try (first | exact onePart (r, ⟨#[]⟩) | (have hle9 := HP.out.2.size; rw [World.size_alloc]; omega)))
                      intro v' w7 hown hgr _ hf
                      have hN := HP.out.push (x := (r, ⟨#[]⟩)) hown hgr
                      obtain ⟨A', cp', rfl⟩ := ownB_form hown
                      clear hown hgr hf HP
                      have HN := hid hN
                      clear hN
                      go_wp2_with fail
                      go_roundw
                      case rel => exact ⟨i + 1, acc ++ [(r, ⟨#[]⟩)], A', cp', by simp, by go_num, by omega, by simp; omega, by simpa using HN, Hex2⟩
                      case measure => first | (simp [intOf]; done) | (simp [intOf]; omega)
                    | false =>
                      rw [if_neg (by decide)] at hex
                      have Hex2 := hid hex
                      clear hex
                      obtain ⟨i0, hi, hz0, hz1, hz2⟩ := info_partsF Tryd.infoPart
                      go_wp2_with (at_builtin; go_must (refine wpList_append_own_at _ rfl _ _ 43 rfl (w1.heap.size) 46 i0 (.agg #[.int .i32 0, .string ⟨#[]⟩]) 2 24 Tryd.underlying43 hi hz0 hz1 hz2 rfl (by decide) (.slice A2 acc.length c2) acc.length (acc.flatMap partC) rfl (ownB_keepS HP.out.1 ((Keeps.refl _ _).alloc (fun b hb => hb) _)) ⟨wr.heap.size, 0, none⟩ 1 1 [.int .i32 120, .string ⟨#[]⟩] rfl (by simp) (own_newsS (own_lit wr 0 _ _ 2 1 [.int .i32 120, .string ⟨#[]⟩] rfl rfl (by decide) (Nat.zero_le _))) ?_ ?_ ?_ ?_ ?_))
                      all_goals (try (first | with_reducible exact one1 _ _ | with_reducible exact one2 _ _ _ | with_reducible exact one4 _ _ _ _ _ | with_reducible exact oneM _ _ | exact rfl | exact fun _ _ => rfl | exact ⟨rfl, rfl⟩ | exact ⟨rfl, rfl, rfl⟩ | exact ⟨rfl, rfl, rfl, rfl⟩ | (unfold maxLen; omega) | omega | (simp; omega) | (simp; done)))
                      (try clear hi)
                      (try clear hz0)
                      (try clear hz1)
                      (try clear hz2)
                      all_goals (try (first | exact onePart (120, ⟨#[]⟩) | (have hle9 := HP.out.2.size; rw [World.size_alloc]; omega)))
                      intro v' w7 hown hgr _ hf
                      have hN := HP.out.push (x := (120, ⟨#[]⟩)) hown hgr
                      obtain ⟨A', cp', rfl⟩ := ownB_form hown
                      clear hown hgr hf HP
                      have HN := hid hN
                      clear hN
                      go_wp2_with fail
                      exact hR'.out _ _ ⟨_, rfl, by rw [← Hex2.out]; exact HN.out.back Hkw.out⟩

    · have hltI : ¬ (i : Int) < (rs.length : Int) := by omega
      have hex := HE.out
      rw [List.drop_eq_nil_of_le (by omega)] at hex
      have hex : acc = al := by rw [← hex]; show acc = acc ++ []; rw [List.append_nil]
      have Hex := hid hex
      clear hex
      go_wp2_with fail
      exact hR'.out _ _ ⟨_, rfl, by rw [← Hex.out]; exact HP.out.back Hkw.out⟩
end Go.Proofs.YtbepgbkbpkaodaaDoor
