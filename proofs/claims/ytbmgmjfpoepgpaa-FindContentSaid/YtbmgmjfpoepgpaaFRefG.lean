/- Contract of a reference: an image. -/
import Derived.Test.YtbmgmjfpoepgpaaFRefF
import Derived.Deep.RegionHeld3
namespace Go.Proofs.Ytbmgmjfpoepgpaa
open Go.RowKit

def bodyL (ls : List LstM) : List Int := ls.flatMap fun l => encL l.ents
def tabE (base : Nat) (ls : List LstM) (k : Nat) : List Int := match ls[k]? with | some l => [l.rcd, ((base + (bodyL (ls.take k)).length : Nat) : Int)] | none => []
def tabL (base : Nat) (ls : List LstM) (i : Nat) : List Int := (List.range i).flatMap (tabE base ls)
def baseL (at' rn : Nat) (ls : List LstM) : Nat := at' + 2 + 4 * rn + 2 * ls.length
def makeL (at' rn : Nat) (rc : List Int) (ls : List LstM) : List Int := ((rn : Int) + 1) :: (ls.length : Int) :: (rc ++ (tabL (baseL at' rn ls) ls ls.length ++ bodyL ls))
theorem tabL_next {base : Nat} {ls : List LstM} {i : Nat} {l : LstM} (h : ls[i]? = some l) : tabL base ls (i + 1) = tabL base ls i ++ [l.rcd, ((base + (bodyL (ls.take i)).length : Nat) : Int)] := by
  unfold tabL
  rw [List.range_succ, List.flatMap_append]
  simp [tabE, h]
theorem bodyL_next {ls : List LstM} {i : Nat} {l : LstM} (h : ls[i]? = some l) : bodyL (ls.take (i + 1)) = bodyL (ls.take i) ++ encL l.ents := by
  unfold bodyL
  rw [← take_snoc h, List.flatMap_append]
  simp
theorem encL_len {es : List EntM} (hM : MayE es) : (encL es).length ≤ 12402 := by
  have h1 := encB_len hM es.length 0
  have h2 := hM.1
  unfold encL skips
  simp [packC_len]
  omega
theorem tabL_len {base : Nat} {ls : List LstM} : ∀ i, i ≤ ls.length → (tabL base ls i).length = 2 * i
  | 0, _ => rfl
  | i + 1, h => by
    have hg : ls[i]? = some (ls[i]'(h)) := List.getElem?_eq_getElem _
    rw [tabL_next hg]
    simp [tabL_len i (Nat.le_of_succ_le h)]
    omega

section
variable {P : Program} {w : World}
theorem wp_append_at {o : Oper} {a : Act} {K : Act → World → Prop} {Q : Exit → Act → World → Prop} (s x : Operand) (t : TypeId)
    (ho : o.op = .call { callee := .builtin .append, args := #[s, x], argTypes := #[t, t] })
    (base : Nat) (e : TypeId) (i : TypeInfo) (z : Value) (size bytes : Nat) (ht : P.underlying t = some (.slice e)) (hi : P.info? e = some i) (hz : i.zero = some z)
    (hsize : i.size = size) (hby : i.bytes = bytes) (hzs : z.cells.size = size) (hsz : 0 < size)
    (v : Value) (n : Nat) (xs : List Value) (hs : a.eval s = v) (hown : w.ownsRow base e size v n xs)
    (ad : Addr) (m c : Nat) (news : List Value) (hx : a.eval x = .slice (some ad) m c) (hl : news.length = m * size) (hnews : ∀ j u, news[j]? = some u → w.cell? (ad.add j) = some u) (h1 : ∀ u ∈ news, u.oneCell' = true)
    (h63 : n + m ≤ maxLen) (hbytes : (n + m) * bytes ≤ 140737488355328) (hbase : base ≤ w.heap.size)
    (h : ∀ v' w', w'.ownsRow base e size v' (n + m) (xs ++ news) → w.grownBy w' v.ownBlock → (v'.ownBlock = v.ownBlock ∨ v'.ownBlock = some w.heap.size) → K (a.put o.dst v') w') : o.wp P a w K Q := by
  obtain ⟨v', w', hr, h2, h3, _, h5⟩ := run_append_own_at (P := P) w base t o.type e i z size bytes ht hi hz hsize hby hzs hsz v n xs hown ad m c news hl hnews h1 h63 hbytes hbase
  unfold Oper.wp execOp
  simp only [ho, resolve, invoke, builtin, Sem.run_bind, Sem.run_pure, Result.andThen_ok, List.map_toArray, List.map_cons, List.map_nil, hs, hx, hr]
  exact h v' w' h2 h3 h5
end

set_option maxRecDepth 100000 in
set_option maxHeartbeats 4000000 in
theorem ref14_make (at' : Nat) (hat : at' ≤ 65536) (rA : Option Addr) (rn rcap : Nat) (rc : List Int) (A : Option Addr) (cap : Nat) (ls : List LstM) (hkey : ∀ l ∈ ls, l.key.size ≤ 17) (w : World) (hr : SlAt w (· < w.heap.size) 4 (.slice rA rn rcap) rn (rc.map (Value.int .u32))) (hv : ListsV w (· < w.heap.size) (.slice A ls.length cap) ls) :
    Calls Try.prog 40 #[.int .i64 (at' : Int), .slice rA rn rcap, .slice A ls.length cap] w fun e w' =>
      (∃ g c, e = .returned (.tuple #[.slice (some ⟨g, 0, none⟩) (makeL at' rn rc ls).length c, .int .i64 0]) ∧ MayL rn ls ∧ NewRow w w' 55 (Value.int .u32) (.slice (some ⟨g, 0, none⟩) (makeL at' rn rc ls).length c) (makeL at' rn rc ls)) ∨
      (e = .returned (.tuple #[.slice none 0 0, .int .i64 1]) ∧ ¬ MayL rn ls ∧ Keeps (· < w.heap.size) w w') := by
  obtain ⟨A0, cap0, he, hc1, hc2⟩ := hv.form
  injection he with e1 _ e3
  subst e1 e3
  unfold maxLen at hc2
  obtain ⟨A0, cap0, he, hd1, hd2⟩ := hr.form
  injection he with e1 _ e3
  subst e1 e3
  unfold maxLen at hd2
  have hrl : rc.length = 4 * rn := by have := hr.choose_spec.choose_spec.2.2.2.1; simp at this; omega
  have HM := hid (ref14_may rA rn rcap (by omega) A cap ls hkey w hv)
  have HV := hid hv
  have HRW := hid hr
  have HRL := hid hrl
  clear hv hr hkey hrl
  refine calls_hide fun R' hR' => ?_
  go_enter Try.func40, Try.ntmps40
  go_wp2_with fail
  refine HM.out.mono ?_
  rintro e w1 ⟨r, rfl, hmay, hk1⟩
  cases r with
  | false =>
    have Hk1 := hid hk1
    have Hmay := hid hmay
    clear hk1 hmay
    go_wp2_with fail
    exact hR'.out _ _ (Or.inr ⟨rfl, fun h => (by cases Hmay.out.2 h), Hk1.out⟩)
  | true =>
    have hL := hmay.1 rfl
    clear hmay
    have hrn := hL.1
    have hln := hL.2.1
    have hs1 := hk1.size
    have hat0 : ¬ (at' : Int) < 0 := by omega
    have hat1 : ¬ (at' : Int) > 65536 := by omega
    have hcv1 : (rn : Int) + 1 ≤ 65 := by omega
    have hcv2 : (ls.length : Int) ≤ 256 := by omega
    have HL := hid hL
    have Hk1 := hid hk1
    clear hL hk1
    go_wp2_with fail
    have hR0 : NewRow w (w1.alloc (.cells #[.int .u32 ((rn : Int) + 1), .int .u32 (ls.length : Int)] 55)) 55 (Value.int .u32) (.slice (some ⟨w1.heap.size, 0, none⟩) 2 2) [((rn : Int) + 1), (ls.length : Int)] :=
      ⟨own_lit w1 w.heap.size _ _ 1 2 [.int .u32 ((rn : Int) + 1), .int .u32 (ls.length : Int)] rfl rfl (by decide) hs1, Hk1.out.alloc (fun b hb => by omega) _⟩
    generalize (w1.alloc (.cells #[.int .u32 ((rn : Int) + 1), .int .u32 (ls.length : Int)] 55)) = W1 at *
    generalize w1.heap.size = g0 at *
    have HR0 := hid hR0
    clear hR0
    clear Hk1 hs1
    go_loopw [8, 37] (fun ov iv wr => ∃ (d : Nat) (ol : List Int) (g c : Nat), ov = .slice (some ⟨g, 0, none⟩) ol.length c ∧ iv = .int .i64 (d : Int) ∧ d ≤ rn ∧ ol.length ≤ 2 + 4 * d ∧ Hid (ol = ((rn : Int) + 1) :: (ls.length : Int) :: rc.take (4 * d)) ∧ Hid (NewRow w wr 55 (Value.int .u32) (.slice (some ⟨g, 0, none⟩) ol.length c) ol)) (fun _ iv _ => rn - (intOf iv).toNat)
    case atStart => exact ⟨0, _, g0, 2, rfl, rfl, Nat.zero_le _, Nat.le_refl _, hid rfl, HR0⟩
    case round =>
      obtain ⟨d, ol, g, c, rfl, rfl, hd, hol, HOL, HR⟩ := hrel
      by_cases hlt : d < rn
      · have hltI : (d : Int) < (rn : Int) := by omega
        have hd0 : (0 : Int) ≤ (d : Int) := Int.natCast_nonneg d
        have hx : ∀ t, t < 4 → ∃ x, rc[d * 4 + t]? = some x := fun t ht => ⟨_, List.getElem?_eq_getElem (by have := HRL.out; omega)⟩
        obtain ⟨a0, ha0⟩ := hx 0 (by decide)
        obtain ⟨a1, ha1⟩ := hx 1 (by decide)
        obtain ⟨a2, ha2⟩ := hx 2 (by decide)
        obtain ⟨a3, ha3⟩ := hx 3 (by decide)
        obtain ⟨A9, c9, e9, _, _, _, h9⟩ := HRW.out
        obtain ⟨rb, ro, e10, hrb, hcell⟩ := h9 (by omega)
        injection e9 with e9 em ec
        clear em ec
        subst e9
        subst e10
        have z0 := (World.cell?_of_block (a := ⟨rb, ro + (d * 4 + 0), none⟩) (HR.out.2.block rb hrb)).trans (hcell (d * 4 + 0) (.int .u32 a0) (by rw [List.getElem?_map, ha0]; rfl))
        have z1 := (World.cell?_of_block (a := ⟨rb, ro + (d * 4 + 1), none⟩) (HR.out.2.block rb hrb)).trans (hcell (d * 4 + 1) (.int .u32 a1) (by rw [List.getElem?_map, ha1]; rfl))
        have z2 := (World.cell?_of_block (a := ⟨rb, ro + (d * 4 + 2), none⟩) (HR.out.2.block rb hrb)).trans (hcell (d * 4 + 2) (.int .u32 a2) (by rw [List.getElem?_map, ha2]; rfl))
        have z3 := (World.cell?_of_block (a := ⟨rb, ro + (d * 4 + 3), none⟩) (HR.out.2.block rb hrb)).trans (hcell (d * 4 + 3) (.int .u32 a3) (by rw [List.getElem?_map, ha3]; rfl))
        simp only [Nat.add_zero, ← Nat.add_assoc] at z0 z1 z2 z3
        have hnx : ol ++ [a0, a1, a2, a3] = ((rn : Int) + 1) :: (ls.length : Int) :: rc.take (4 * (d + 1)) := by
          rw [HOL.out, show 4 * (d + 1) = d * 4 + 0 + 1 + 1 + 1 + 1 by omega, ← take_snoc (i := d * 4 + 0 + 1 + 1 + 1) ha3, ← take_snoc (i := d * 4 + 0 + 1 + 1) ha2, ← take_snoc (i := d * 4 + 0 + 1) ha1, ← take_snoc ha0, show 4 * d = d * 4 + 0 by omega]
          simp
        have x0 := hcell (d * 4 + 0) (.int .u32 a0) (by rw [List.getElem?_map, ha0]; rfl)
        have x1 := hcell (d * 4 + 1) (.int .u32 a1) (by rw [List.getElem?_map, ha1]; rfl)
        have x2 := hcell (d * 4 + 2) (.int .u32 a2) (by rw [List.getElem?_map, ha2]; rfl)
        have x3 := hcell (d * 4 + 3) (.int .u32 a3) (by rw [List.getElem?_map, ha3]; rfl)
        simp only [Nat.add_zero, ← Nat.add_assoc] at x0 x1 x2 x3
        have hBs := HR.out.2.size
        have hrow := ownB_keepS HR.out.1 ((Keeps.refl _ _).drew)
        have hkp := HR.out.2.drew
        have HS4 := hid (show ∀ w6 : World, World.grownBy (wr.drew.alloc (.cells #[.int .u32 a0, .int .u32 a1, .int .u32 a2, .int .u32 a3] 55)) w6 (Value.slice (some ⟨g, 0, none⟩) ol.length c).ownBlock →
            w6.cell? ⟨rb, ro + d * 4, none⟩ = some (.int .u32 a0) ∧ w6.cell? ⟨rb, ro + d * 4 + 1, none⟩ = some (.int .u32 a1) ∧ w6.cell? ⟨rb, ro + d * 4 + 2, none⟩ = some (.int .u32 a2) ∧ w6.cell? ⟨rb, ro + d * 4 + 3, none⟩ = some (.int .u32 a3) from fun w6 hg => by
          have k := keeps_grown (w := wr.drew.alloc (.cells #[.int .u32 a0, .int .u32 a1, .int .u32 a2, .int .u32 a3] 55)) (hkp.alloc (fun b hb => by simp; omega) _) (by simp; omega) (ownB_keepS hrow ((Keeps.refl _ _).alloc (fun b hb => hb) _)) hg
          have kb := k.block rb hrb
          exact ⟨(World.cell?_of_block kb).trans x0, (World.cell?_of_block kb).trans x1, (World.cell?_of_block kb).trans x2, (World.cell?_of_block kb).trans x3⟩)
        have Hnx := hid hnx
        have Hrow := hid hrow
        have Hkp := hid hkp
        clear hnx hrow hkp
        clear x0 x1 x2 x3
        clear hx ha0 ha1 ha2 ha3 h9 hcell HOL hrb
        go_upto_region 7 with fail
        obtain ⟨i0, hi, hz0, hz1, hz2⟩ := info_partsF Try.infoU
        go_region_held3 (fun w' => w'.cell? ⟨rb, ro + d * 4, none⟩ = some (.int .u32 a0) ∧ w'.cell? ⟨rb, ro + d * 4 + 1, none⟩ = some (.int .u32 a1) ∧ w'.cell? ⟨rb, ro + d * 4 + 2, none⟩ = some (.int .u32 a2) ∧ w'.cell? ⟨rb, ro + d * 4 + 3, none⟩ = some (.int .u32 a3)) (go_keep)
          ((rw [if_pos (by rfl)]; go_must (refine wp_append_at _ _ 32 rfl w.heap.size 55 i0 (.int .u32 0) 1 4 Try.underlying32 hi hz0 hz1 hz2 rfl (by decide) (.slice (some ⟨g, 0, none⟩) ol.length c) ol.length (ol.map (Value.int .u32)) rfl (ownB_keepS Hrow.out ((Keeps.refl _ _).alloc (fun b hb => hb) _)) ⟨wr.heap.size, 0, none⟩ 4 4 [.int .u32 a0, .int .u32 a1, .int .u32 a2, .int .u32 a3] rfl rfl (own_news (own_lit wr.drew 0 _ _ 1 4 [.int .u32 a0, .int .u32 a1, .int .u32 a2, .int .u32 a3] rfl rfl (by decide) (Nat.zero_le _))) (one4 _ _ _ _ _) (by unfold maxLen; omega) (by omega) (by simp; omega) ?_); intro v' w6 hown hgr hf; obtain ⟨q0, q1, q2, q3⟩ := HS4.out _ hgr))
        all_goals
          have hl1 : ol.length + 4 = (ol ++ [a0, a1, a2, a3]).length := by simp
          have hl2 : ol.map (Value.int .u32) ++ [.int .u32 a0, .int .u32 a1, .int .u32 a2, .int .u32 a3] = (ol ++ [a0, a1, a2, a3]).map (Value.int .u32) := by simp
          have hkg := keeps_grown (w := wr.drew.alloc (.cells #[.int .u32 a0, .int .u32 a1, .int .u32 a2, .int .u32 a3] 55)) (Hkp.out.alloc (fun b hb => by simp; omega) _) (by simp; omega) (ownB_keepS Hrow.out ((Keeps.refl _ _).alloc (fun b hb => hb) _)) hgr
          obtain ⟨g', c', rfl⟩ := ownB_pos hown (by omega)
          have hln : (ol ++ [a0, a1, a2, a3]).length ≤ 2 + 4 * (d + 1) := by simp; omega
          rw [hl1, hl2] at hown
          rw [hl1]
          have hnx := Hnx.out
          generalize ol ++ [a0, a1, a2, a3] = ol2 at hown hnx hln hl1 hl2 ⊢
          clear hl1 hl2 hgr hf z0 z1 z2 z3 q0 q1 q2 q3 HS4 hi hz0 hz1 hz2
          have Hown := hid hown
          have HNX2 := hid hnx
          have Hkg := hid hkg
          clear hown hnx hkg
          go_wp2_with fail
          go_roundw
          case rel => exact ⟨d + 1, ol2, g', c', rfl, by go_num, hlt, hln, HNX2, hid ⟨Hown.out, Hkg.out⟩⟩
          case measure => first | (simp [intOf]; done) | (simp [intOf]; omega)
      · obtain rfl : d = rn := by omega
        have hltI : ¬ (d : Int) < (d : Int) := by omega
        have hbs := HR.out.2.size
        rw [List.take_of_length_le (by have := HRL.out; omega)] at HOL
        go_wp2_with fail
        have hT0 : Two w.heap.size w (wr.alloc (.cells #[] 55)) 55 1 (.slice (some ⟨g, 0, none⟩) ol.length c) ol.length (ol.map (Value.int .u32)) 55 1 (.slice (some ⟨wr.heap.size, 0, none⟩) 0 0) 0 [] := by
          have hg := (ownB_lt HR.out.1 (b := g) rfl).2
          refine ⟨ownB_keepS HR.out.1 ((Keeps.refl _ _).alloc (fun b hb => hb) _), own_lit wr _ _ _ 1 0 [] rfl rfl (Nat.zero_le _) hbs, ?_, HR.out.2.alloc (fun b hb => by omega) _, by simp; omega⟩
          intro y h1 h2
          simp [Value.ownBlock] at h1 h2
          omega
        generalize (wr.alloc (.cells #[] 55)) = W2 at *
        generalize wr.heap.size = gb0 at *
        have HT0 := hid hT0
        clear hT0
        clear HR hbs HR0
        go_loopw [8, 10, 77] (fun ov bv iv wr => ∃ (i : Nat) (tl bl : List Int) (go gb co cb : Nat), ov = .slice (some ⟨go, 0, none⟩) tl.length co ∧ bv = .slice (some ⟨gb, 0, none⟩) bl.length cb ∧ iv = .int .i64 (i : Int) ∧ i ≤ ls.length ∧ tl.length ≤ 2 + 4 * d + 2 * i ∧ bl.length ≤ 12402 * i ∧
          Hid (tl = ((d : Int) + 1) :: (ls.length : Int) :: (rc ++ tabL (baseL at' d ls) ls i)) ∧ Hid (bl = bodyL (ls.take i)) ∧
          Hid (Two w.heap.size w wr 55 1 (.slice (some ⟨go, 0, none⟩) tl.length co) tl.length (tl.map (Value.int .u32)) 55 1 (.slice (some ⟨gb, 0, none⟩) bl.length cb) bl.length (bl.map (Value.int .u32)))) (fun _ _ iv _ => ls.length - (intOf iv).toNat)
        case atStart => exact ⟨0, ol, [], g, gb0, c, 0, rfl, rfl, rfl, Nat.zero_le _, hol, Nat.zero_le _, hid (by rw [HOL.out]; simp [tabL]), hid rfl, HT0⟩
        case round =>
          obtain ⟨i, tl, bl, go, gb, co, cb, rfl, rfl, rfl, hi, htl, hbl, HTL, HBL, HT⟩ := hrel
          by_cases hli : i < ls.length
          · have hliI : (i : Int) < (ls.length : Int) := by omega
            have hi0 : (0 : Int) ≤ (i : Int) := Int.natCast_nonneg i
            have hgl : ls[i]? = some ls[i] := List.getElem?_eq_getElem hli
            generalize ls[i] = l at hgl
            obtain ⟨b, off, cp, ev, e1, hKb, x0, x1, x2, hev⟩ := HV.out.get hgl
            injection e1 with e1 _ e2
            subst e1 e2
            obtain ⟨o1, o2, o3, o4, o5, o6⟩ := HL.out.2.2 i l hgl
            obtain ⟨eA, ec, rfl, hp1, hp2⟩ := hev.form
            have y1 := (World.cell?_of_block (a := ⟨b, off + i * 3 + 1, none⟩) (HT.out.keeps.block b hKb)).trans x1
            have hel := encL_len o5
            have hle := HT.out.le
            obtain ⟨rv, hrv⟩ : ∃ d, d = l.rcd := ⟨_, rfl⟩
            rw [← hrv] at y1 o2 o3
            have htn := tabL_next (base := baseL at' d ls) hgl
            have hbn := bodyL_next hgl
            rw [← HBL.out, ← hrv] at htn
            rw [← HBL.out] at hbn
            have HME := hid o5
            have HEN := hid o4
            have HEV := hid hev
            have HX2 := hid x2
            have HGL := hid hgl
            have HKB := hid hKb
            have Htn := hid htn
            have Hbn := hid hbn
            have Hrv := hid hrv
            clear htn hbn hrv
            clear x0 x1 x2 hev o1 o6 o5 o4 hgl hp1 hp2
            go_upto_region 14 with fail
            obtain ⟨i0, hi, hz0, hz1, hz2⟩ := info_partsF Try.infoU
            go_wp2_with (at_builtin; go_must (refine wpList_append_own_at _ rfl _ _ 32 rfl (w.heap.size) 55 i0 (.int .u32 0) 1 4 Try.underlying32 hi hz0 hz1 hz2 rfl (by decide) (.slice (some ⟨go, 0, none⟩) tl.length co) tl.length (tl.map (Value.int .u32)) rfl (ownB_keepS HT.out.o1 ((Keeps.refl _ _).alloc (fun b hb => hb) _)) ⟨wr.heap.size, 0, none⟩ 2 2 [.int .u32 rv, .int .u32 ((at' : Int) + 2 + 4 * (d : Int) + 2 * (ls.length : Int) + (bl.length : Int))] rfl (by simp) (own_news (own_lit wr 0 _ _ 1 2 [.int .u32 rv, .int .u32 ((at' : Int) + 2 + 4 * (d : Int) + 2 * (ls.length : Int) + (bl.length : Int))] rfl rfl (by decide) (Nat.zero_le _))) ?_ ?_ ?_ ?_ ?_))
            all_goals (try (first | with_reducible exact one1 _ _ | with_reducible exact one2 _ _ _ | with_reducible exact one4 _ _ _ _ _ | with_reducible exact oneM _ _ | exact rfl | exact fun _ _ => rfl | exact ⟨rfl, rfl⟩ | exact ⟨rfl, rfl, rfl⟩ | exact ⟨rfl, rfl, rfl, rfl⟩ | (unfold maxLen; omega) | omega | (simp; omega) | (simp; done)))
            (try clear hi)
            (try clear hz0)
            (try clear hz1)
            (try clear hz2)
            intro v' w6 hown hgr _ hf
            have hN := (HT.out.alloc _).app hown hgr (by simpa using hf)
            obtain ⟨g', c', rfl⟩ := ownB_pos hown (by omega)
            have htx : tl ++ [rv, (at' : Int) + 2 + 4 * (d : Int) + 2 * (ls.length : Int) + (bl.length : Int)] = ((d : Int) + 1) :: (ls.length : Int) :: (rc ++ tabL (baseL at' d ls) ls (i + 1)) := by
              rw [Htn.out, HTL.out]
              unfold baseL
              simp
            have hl1 : tl.length + 2 = (tl ++ [rv, (at' : Int) + 2 + 4 * (d : Int) + 2 * (ls.length : Int) + (bl.length : Int)]).length := by simp
            have hl2 : tl.map (Value.int .u32) ++ [.int .u32 rv, .int .u32 ((at' : Int) + 2 + 4 * (d : Int) + 2 * (ls.length : Int) + (bl.length : Int))] = (tl ++ [rv, (at' : Int) + 2 + 4 * (d : Int) + 2 * (ls.length : Int) + (bl.length : Int)]).map (Value.int .u32) := by simp
            have htl2 : (tl ++ [rv, (at' : Int) + 2 + 4 * (d : Int) + 2 * (ls.length : Int) + (bl.length : Int)]).length ≤ 2 + 4 * d + 2 * (i + 1) := by simp; omega
            rw [hl1, hl2] at hN
            rw [hl1]
            generalize tl ++ [rv, (at' : Int) + 2 + 4 * (d : Int) + 2 * (ls.length : Int) + (bl.length : Int)] = tl2 at hN htx htl2 hl1 hl2 ⊢
            clear hown hgr hf hl1 hl2 htl HT y1 hle
            have y2 := (World.cell?_of_block (a := ⟨b, off + i * 3 + 2, none⟩) (hN.keeps.block b HKB.out)).trans HX2.out
            have hle := hN.le
            have hev2 := (HEV.out.keep hN.keeps (fun b hb => hb)).up (L := (· < w6.heap.size)) (fun b hb => Nat.lt_of_lt_of_le hb hle)
            have HN := hid hN
            have Htx := hid htx
            have Hev2 := hid hev2
            clear hN htx hev2
            go_wp2_with fail
            refine (ref13_encode eA ec l.ents HME.out HEN.out w6 Hev2.out).mono ?_
            rintro e' w7 ⟨g7, c7, rfl, hN7⟩
            have hT7 := HN.out.calls hN7.2
            have hnw := own_news hN7.1
            have hle7 := hT7.le
            have hep : 0 < (encL l.ents).length := by unfold encL; simp
            obtain ⟨ye, hye⟩ : ∃ ye, ye = encL l.ents := ⟨_, rfl⟩
            rw [← hye] at hN7 hnw hel hep ⊢
            have hbn := Hbn.out
            rw [← hye] at hbn
            clear y2 hle
            have HN7 := hid hN7
            have HT7 := hid hT7
            have Hnw := hid hnw
            have Hye := hid hye
            have HBN2 := hid hbn
            clear hN7 hT7 hnw hye hbn
            clear HN
            obtain ⟨i0, hi, hz0, hz1, hz2⟩ := info_partsF Try.infoU
            go_wp2_with (at_builtin; go_must (refine wpList_append_own_at _ rfl _ _ 32 rfl (w.heap.size) 55 i0 (.int .u32 0) 1 4 Try.underlying32 hi hz0 hz1 hz2 rfl (by decide) (.slice (some ⟨gb, 0, none⟩) bl.length cb) bl.length (bl.map (Value.int .u32)) rfl HT7.out.o2 ⟨g7, 0, none⟩ ye.length c7 (ye.map (Value.int .u32)) rfl (by simp) Hnw.out ?_ ?_ ?_ ?_ ?_))
            all_goals (try (first | with_reducible exact one1 _ _ | with_reducible exact one2 _ _ _ | with_reducible exact one4 _ _ _ _ _ | with_reducible exact oneM _ _ | exact rfl | exact fun _ _ => rfl | exact ⟨rfl, rfl⟩ | exact ⟨rfl, rfl, rfl⟩ | exact ⟨rfl, rfl, rfl, rfl⟩ | (unfold maxLen; omega) | omega | (simp; omega) | (simp; done)))
            (try clear hi)
            (try clear hz0)
            (try clear hz1)
            (try clear hz2)
            intro v' w8 hown hgr _ hf
            have hN := HT7.out.swap.app hown hgr hf
            obtain ⟨g8, c8, rfl⟩ := ownB_pos hown (by omega)
            have hl1 : bl.length + ye.length = (bl ++ ye).length := by simp
            have hl2 : bl.map (Value.int .u32) ++ ye.map (Value.int .u32) = (bl ++ ye).map (Value.int .u32) := by simp
            have hbl2 : (bl ++ ye).length ≤ 12402 * (i + 1) := by simp; omega
            have hbn := HBN2.out
            rw [hl1, hl2] at hN
            rw [hl1]
            generalize bl ++ ye = bl2 at hN hbn hbl2 hl1 hl2 ⊢
            replace hN := hN.swap
            clear hown hgr hf hl1 hl2 HT7 Hnw HN7
            have HN := hid hN
            have HBN3 := hid hbn
            clear hN hbn
            go_wp2_with fail
            go_roundw
            case rel => exact ⟨i + 1, tl2, bl2, g', g8, c', c8, rfl, rfl, by go_num, hli, htl2, hbl2, Htx, hid HBN3.out.symm, HN⟩
            case measure => first | (simp [intOf]; done) | (simp [intOf]; omega)
          · obtain rfl : i = ls.length := by omega
            have hliI : ¬ (ls.length : Int) < (ls.length : Int) := by omega
            have hle := HT.out.le
            have hnw := own_news HT.out.o2
            have htl0 : 0 < tl.length := by rw [HTL.out]; simp
            have hfin : tl ++ bl = makeL at' d rc ls := by
              rw [HTL.out, HBL.out, List.take_length]
              unfold makeL
              simp
            have Hnw := hid hnw
            have Hfin := hid hfin
            clear hnw hfin
            go_upto_region 18 with fail
            obtain ⟨i0, hi, hz0, hz1, hz2⟩ := info_partsF Try.infoU
            go_wp2_with (at_builtin; go_must (refine wpList_append_own_at _ rfl _ _ 32 rfl (w.heap.size) 55 i0 (.int .u32 0) 1 4 Try.underlying32 hi hz0 hz1 hz2 rfl (by decide) (.slice (some ⟨go, 0, none⟩) tl.length co) tl.length (tl.map (Value.int .u32)) rfl HT.out.o1 ⟨gb, 0, none⟩ bl.length cb (bl.map (Value.int .u32)) rfl (by simp) Hnw.out ?_ ?_ ?_ ?_ ?_))
            all_goals (try (first | with_reducible exact one1 _ _ | with_reducible exact one2 _ _ _ | with_reducible exact one4 _ _ _ _ _ | with_reducible exact oneM _ _ | exact rfl | exact fun _ _ => rfl | exact ⟨rfl, rfl⟩ | exact ⟨rfl, rfl, rfl⟩ | exact ⟨rfl, rfl, rfl, rfl⟩ | (unfold maxLen; omega) | omega | (simp; omega) | (simp; done)))
            (try clear hi)
            (try clear hz0)
            (try clear hz1)
            (try clear hz2)
            intro v' w8 hown hgr _ hf
            have hN := HT.out.app hown hgr hf
            obtain ⟨g', c', rfl⟩ := ownB_pos hown (by omega)
            have hl1 : tl.length + bl.length = (makeL at' d rc ls).length := by rw [← Hfin.out]; simp
            have hl2 : tl.map (Value.int .u32) ++ bl.map (Value.int .u32) = (makeL at' d rc ls).map (Value.int .u32) := by rw [← Hfin.out]; simp
            rw [hl1, hl2] at hN
            rw [hl1]
            clear hown hgr hf hl1 hl2
            have HN := hid hN
            clear hN
            go_wp2_with fail
            exact hR'.out _ _ (Or.inl ⟨g', c', rfl, HL.out, HN.out.o1, HN.out.keeps⟩)
end Go.Proofs.Ytbmgmjfpoepgpaa
