/- Layer 15's statements: whether a content is more than is gone through. -/
import Derived.Test.YtbmgmjfpoepgpaaFLawC
namespace Go.Proofs.Ytbmgmjfpoepgpaa
open Go.RowKit

def totE (es : List EntM) : Nat := (es.map fun e => 1 + e.pos.length).sum
def totL (ls : List LstM) : Nat := (ls.map fun l => 1 + l.key.size + totE l.ents).sum
def smallL (ls : List LstM) : Prop := ∀ l ∈ ls, ∀ e ∈ l.ents, e.pos.length ≤ 256
theorem totE_next {es : List EntM} {k : Nat} {e : EntM} (h : es[k]? = some e) : totE (es.take (k + 1)) = totE (es.take k) + (1 + e.pos.length) := by
  unfold totE
  rw [← take_snoc h]
  simp
theorem totL_next {ls : List LstM} {k : Nat} {l : LstM} (h : ls[k]? = some l) : totL (ls.take (k + 1)) = totL (ls.take k) + (1 + l.key.size + totE l.ents) := by
  unfold totL
  rw [← take_snoc h]
  simp

set_option maxRecDepth 100000 in
set_option maxHeartbeats 2000000 in
theorem great15 (rA : Option Addr) (rn rcap : Nat) (hrn : rn ≤ 9223372036854775807) (A : Option Addr) (cap : Nat) (ls : List LstM) (w : World) (hv : ListsV w (· < w.heap.size) (.slice A ls.length cap) ls) :
    Calls Try.prog 14 #[.slice rA rn rcap, .slice A ls.length cap] w fun e w' => ∃ r, e = .returned (.bool r) ∧ (r = false → ls.length ≤ 300 ∧ (∀ l ∈ ls, l.key.size ≤ 17) ∧ (smallL ls → totL ls ≤ 4096)) ∧ Keeps (· < w.heap.size) w w' := by
  obtain ⟨A0, cap0, he, hc1, hc2⟩ := hv.form
  injection he with e1 _ e3
  subst e1 e3
  unfold maxLen at hc2
  have HV := hid hv
  clear hv
  refine calls_hide fun R' hR' => ?_
  go_enter Try.func14, Try.ntmps14
  by_cases h1 : 100 < rn
  · have h1J : (rn : Int) > 100 := by omega
    go_wp2_with fail
    exact hR'.out _ _ ⟨true, rfl, fun h => (by cases h), Keeps.refl _ _⟩
  have h1J : ¬ (rn : Int) > 100 := by omega
  by_cases h2 : 300 < ls.length
  · have h2J : (ls.length : Int) > 300 := by omega
    go_wp2_with fail
    exact hR'.out _ _ ⟨true, rfl, fun h => (by cases h), Keeps.refl _ _⟩
  have h2J : ¬ (ls.length : Int) > 300 := by omega
  go_wp2_with fail
  go_loopw [5, 20] (fun nv iv wr => ∃ (i : Nat) (n : Int), nv = .int .i64 n ∧ iv = .int .i64 (i : Int) ∧ i ≤ ls.length ∧ -9223372036854775808 ≤ n ∧ n ≤ 4096 ∧ Hid (∀ i' l, i' < i → ls[i']? = some l → l.key.size ≤ 17) ∧ Hid (smallL ls → n = (totL (ls.take i) : Int)) ∧ Hid (Keeps (· < w.heap.size) w wr)) (fun _ iv _ => ls.length - (intOf iv).toNat)
  case atStart => exact ⟨0, 0, rfl, rfl, Nat.zero_le _, by decide, by decide, hid (fun i' l h => by omega), hid (fun _ => rfl), hid (Keeps.refl _ _)⟩
  case round =>
    obtain ⟨i, n, rfl, rfl, hi, hn0, hn1, HO, HT, HK⟩ := hrel
    by_cases hlt : i < ls.length
    · have hltI : (i : Int) < (ls.length : Int) := by omega
      have hi0 : (0 : Int) ≤ (i : Int) := Int.natCast_nonneg i
      have hgl : ls[i]? = some ls[i] := List.getElem?_eq_getElem hlt
      generalize ls[i] = l at hgl
      obtain ⟨b, off, cp, ev, e1, hKb, x0, x1, x2, hev⟩ := HV.out.get hgl
      injection e1 with e1 _ e2
      subst e1 e2
      obtain ⟨eA, ec, rfl, hp1, hp2⟩ := hev.form
      unfold maxLen at hp2
      have y0 := (World.cell?_of_block (a := ⟨b, off + i * 3, none⟩) (HK.out.block b hKb)).trans x0
      have y1 := (World.cell?_of_block (a := ⟨b, off + i * 3 + 1, none⟩) (HK.out.block b hKb)).trans x1
      have y2 := (World.cell?_of_block (a := ⟨b, off + i * 3 + 2, none⟩) (HK.out.block b hKb)).trans x2
      have hsz := HK.out.size
      obtain ⟨kv, hkv⟩ : ∃ d, d = l.key := ⟨_, rfl⟩
      obtain ⟨ne, hne⟩ : ∃ d, d = l.ents.length := ⟨_, rfl⟩
      rw [← hkv] at y0
      rw [← hne] at y2 hp1
      have hev1 : EntV wr (· < w.heap.size) (.slice eA ne ec) l.ents := by rw [hne]; exact hev.keep HK.out (fun b hb => hb)
      have htl := totL_next hgl
      have HGL := hid hgl
      have HKV := hid hkv
      have HNE := hid hne
      have HTL := hid htl
      clear x0 x1 x2 hev hgl hkv hne htl
      go_upto_region 7 with fail
      refine wp_gen (fun W => Blk W wr.heap.size [.string kv, .int .i64 l.rcd, .slice eA ne ec] ∧ Keeps (· < w.heap.size) w W ∧ EntV W (· < w.heap.size) (.slice eA ne ec) l.ents ∧ w.heap.size ≤ wr.heap.size ∧ wr.heap.size < W.heap.size) ⟨Blk.new wr _ _, HK.out.alloc (fun b hb => by omega) _, hev1.keep ((Keeps.refl (· < wr.heap.size) _).alloc (fun b hb => hb) _) (fun b hb => by omega), hsz, by simp⟩ ?_
      rintro W ⟨hbe, hkq, hev2, hbs, hbl⟩
      generalize wr.heap.size = be at *
      clear HK y0 y1 y2 hev1
      have hbe0 := hbe
      have z0 := (hbe0).cell 0
      have z1 := (hbe0).cell 1
      have z2 := (hbe0).cell 2
      simp only [List.getElem?_cons_zero, List.getElem?_cons_succ] at z0 z1 z2
      clear hbe0
      have Hbe := hid hbe
      have Hkq := hid hkq
      have Hev2 := hid hev2
      clear hbe hkq hev2
      go_upto_region 8 with fail
      have hwp : -9223372036854775808 ≤ wrap64 (n + wrap64 (1 + (kv.size : Int))) ∧ wrap64 (n + wrap64 (1 + (kv.size : Int))) ≤ 9223372036854775807 := by unfold wrap64; omega
      have hwe : kv.size ≤ 17 → wrap64 (n + wrap64 (1 + (kv.size : Int))) = n + (1 + (kv.size : Int)) := by intro h; unfold wrap64; omega
      generalize wrap64 (n + wrap64 (1 + (kv.size : Int))) = n2 at *
      generalize wrap64 (1 + (kv.size : Int)) = n9
      obtain ⟨hwp0, hwp1⟩ := hwp
      have Hwe := hid hwe
      clear hwe
      by_cases b1 : n2 > 4096
      · go_wp2_with fail
        exact hR'.out _ _ ⟨true, rfl, fun h => (by cases h), Hkq.out⟩
      by_cases b2 : (kv.size : Int) > 17
      · go_wp2_with fail
        exact hR'.out _ _ ⟨true, rfl, fun h => (by cases h), Hkq.out⟩
      by_cases b3 : (ne : Int) > 100
      · go_wp2_with fail
        exact hR'.out _ _ ⟨true, rfl, fun h => (by cases h), Hkq.out⟩
      have hn2 : n2 ≤ 4096 := by omega
      go_wp2_with fail
      go_loopw [5, 47] (fun nv kv9 wk => ∃ (k : Nat) (n3 : Int), nv = .int .i64 n3 ∧ kv9 = .int .i64 (k : Int) ∧ k ≤ ne ∧ -9223372036854775808 ≤ n3 ∧ n3 ≤ 4096 ∧ Hid (smallL ls → n3 = (totL (ls.take i) : Int) + (1 + (kv.size : Int)) + (totE (l.ents.take k) : Int)) ∧ Hid (Keeps (· < w.heap.size) w wk) ∧ Hid (EntV wk (· < w.heap.size) (.slice eA ne ec) l.ents)) (fun _ kv9 _ => ne - (intOf kv9).toNat)
      case atStart => exact ⟨0, n2, rfl, rfl, Nat.zero_le _, hwp0, hn2, hid (fun hs => by rw [Hwe.out (by omega), HT.out hs]; simp [totE]), Hkq, Hev2⟩
      case round =>
        rename World => wk
        obtain ⟨k, n3, rfl, rfl, hk, hn30, hn31, HT3, HKk, HEk⟩ := hrel
        by_cases hkn : k < ne
        · have hknI : (k : Int) < (ne : Int) := by omega
          have hk0 : (0 : Int) ≤ (k : Int) := Int.natCast_nonneg k
          have hge : l.ents[k]? = some (l.ents[k]'(by have := HNE.out; omega)) := List.getElem?_eq_getElem _
          generalize l.ents[k]'(by have := HNE.out; omega) = e at hge
          obtain ⟨b2, off2, c2, pv2, e1, hK2, v0, v1, hps⟩ := HEk.out.get hge
          injection e1 with e1 em e2
          clear em
          subst e1 e2
          obtain ⟨pA, pc, rfl, hpp1, hpp2⟩ := hps.form
          unfold maxLen at hpp2
          have hsk := HKk.out.size
          have hte := totE_next hge
          have hsm : smallL ls → e.pos.length ≤ 256 := fun hs => hs l (List.mem_of_getElem? HGL.out) e (List.mem_of_getElem? hge)
          obtain ⟨np, hnp⟩ : ∃ d, d = e.pos.length := ⟨_, rfl⟩
          rw [← hnp] at v1 hpp1 hte hsm
          have HEk2 := hid (HEk.out.keep ((Keeps.refl (· < wk.heap.size) wk).alloc (fun b hb => hb) (.cells #[.int .i64 e.doc, .slice pA np pc] 71)) (fun b hb => Nat.lt_of_lt_of_le hb hsk))
          have HKk2 := hid (HKk.out.alloc (fun b hb => Nat.lt_of_lt_of_le hb hsk) (.cells #[.int .i64 e.doc, .slice pA np pc] 71))
          have Hte := hid hte
          have Hsm := hid hsm
          clear hte hsm
          clear hps hge hnp z0 z1 z2
          go_upto_region 14 with fail
          have hwp : -9223372036854775808 ≤ wrap64 (n3 + wrap64 (1 + (np : Int))) ∧ wrap64 (n3 + wrap64 (1 + (np : Int))) ≤ 9223372036854775807 := by unfold wrap64; omega
          have hwe : np ≤ 256 → wrap64 (n3 + wrap64 (1 + (np : Int))) = n3 + (1 + (np : Int)) := by intro h; unfold wrap64; omega
          generalize wrap64 (n3 + wrap64 (1 + (np : Int))) = n4 at *
          generalize wrap64 (1 + (np : Int)) = n8
          obtain ⟨hq0, hq1⟩ := hwp
          have HWE2 := hid hwe
          clear hwe
          by_cases b4 : n4 > 4096
          · go_wp2_with fail
            exact hR'.out _ _ ⟨true, rfl, fun h => (by cases h), HKk2.out⟩
          have hn4 : n4 ≤ 4096 := by omega
          go_wp2_with fail
          go_roundw
          case rel => exact ⟨k + 1, n4, rfl, by go_num, hkn, hq0, hn4, hid (fun hs => by have h9 := HT3.out hs; have h8 := Hte.out; have h7 := HWE2.out (Hsm.out hs); omega), HKk2, HEk2⟩
          case measure => first | (simp [intOf]; done) | (simp [intOf]; omega)
        · have hknI : ¬ (k : Int) < (ne : Int) := by omega
          go_wp2_with fail
          go_roundw
          case rel => exact ⟨i + 1, n3, rfl, by go_num, hlt, hn30, hn31, hid (fun i' l' h hl => by
              by_cases hii : i' = i
              · subst hii
                rw [HGL.out] at hl; injection hl with hl
                rw [← hl, ← HKV.out]; omega
              · exact HO.out i' l' (by omega) hl), hid (fun hs => by
              have h9 := HT3.out hs
              have hk9 : l.ents.take k = l.ents := List.take_of_length_le (by have := HNE.out; omega)
              rw [hk9] at h9
              have h8 := HTL.out
              rw [← HKV.out] at h8
              omega), HKk⟩
          case measure => first | (simp [intOf]; done) | (simp [intOf]; omega)
    · obtain rfl : i = ls.length := by omega
      have hltI : ¬ (ls.length : Int) < (ls.length : Int) := by omega
      go_wp2_with fail
      refine hR'.out _ _ ⟨false, rfl, fun _ => ⟨by omega, fun l hl => ?_, fun hs => ?_⟩, HK.out⟩
      · obtain ⟨i, hi, rfl⟩ := List.getElem_of_mem hl
        exact HO.out i _ hi (List.getElem?_eq_getElem hi)
      · have := HT.out hs
        rw [List.take_length] at this
        omega
end Go.Proofs.Ytbmgmjfpoepgpaa
