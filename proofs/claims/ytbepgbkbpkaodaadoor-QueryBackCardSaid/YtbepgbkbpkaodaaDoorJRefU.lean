/- Layer 4 (utf): contracts of Text and Fit. -/
import Derived.Test.YtbepgbkbpkaodaaDoorUtfA
import Derived.Lib.AppendStr
import Derived.Laws.Runes
import Derived.Outline
import Derived.Lib.DecodeN
namespace Go.Proofs.YtbepgbkbpkaodaaDoor
open Go.RowKit

/-- a rune's bytes -/
def encB (r : Int) : List UInt8 := (Utf8.encode r).data.toList
def textB (rs : List Int) : List UInt8 := rs.flatMap encB
def textS (rs : List Int) : ByteArray := ⟨(textB rs).toArray⟩
def u8v (b : UInt8) : Value := .int .u8 (b.toNat : Int)
theorem strCells_enc (r : Int) : Lib.strCells (Utf8.encode r) = (encB r).map u8v := rfl
theorem enc_size (r : Int) : (Utf8.encode r).size = (encB r).length := rfl
theorem encB_four (r : Int) : (encB r).length ≤ 4 := by
  unfold encB
  simp only [Utf8.encode]
  repeat' split
  all_goals simp
theorem encB_pos (r : Int) : 0 < (encB r).length := by
  unfold encB
  simp only [Utf8.encode]
  repeat' split
  all_goals simp
theorem textB_len (rs : List Int) : (textB rs).length ≤ 4 * rs.length := by
  induction rs with
  | nil => simp [textB]
  | cons r rs ih =>
    have := encB_four r
    simp only [textB, List.flatMap_cons, List.length_append, List.length_cons] at *
    omega
theorem textB_snoc (rs : List Int) (r : Int) : textB (rs ++ [r]) = textB rs ++ encB r := by simp [textB]
theorem textB_cons (rs : List Int) (r : Int) : textB (r :: rs) = encB r ++ textB rs := by simp [textB]

/-- an own row of bytes in a new block -/
def NewB (w0 w : World) (v : Value) (bs : List UInt8) : Prop := w.ownsRow w0.heap.size 5 1 v bs.length (bs.map u8v) ∧ Keeps (· < w0.heap.size) w0 w
theorem NewB.app {w0 wr w' : World} {v v' : Value} {acc : List UInt8} {r : Int} (h : NewB w0 wr v acc) (hown : w'.ownsRow w0.heap.size 5 1 v' (acc.length + (Utf8.encode r).size) (acc.map u8v ++ Lib.strCells (Utf8.encode r))) (hg : wr.grownBy w' v.ownBlock) : NewB w0 w' v' (acc ++ encB r) := by
  refine ⟨by rw [List.length_append, List.map_append]; exact hown, keeps_grown h.2 h.2.size h.1 hg⟩
theorem NewB.conv {w0 wr : World} {A : Option Addr} {cp : Nat} {bs : List UInt8} {s t e : TypeId} {P : Program} (hs : P.underlying s = some (.slice e)) (he : P.underlying e = some (.int .u8)) (hd : P.underlying t = some .string)
    (h : NewB w0 wr (.slice A bs.length cp) bs) : (convert s t (.slice A bs.length cp)).run P wr = .ok (.string ⟨bs.toArray⟩) wr := by
  cases bs with
  | nil =>
    rw [run_convert_bytes_string wr s t e A _ cp hs he hd]
    cases A <;> rfl
  | cons b bs =>
    obtain ⟨g, c, hg⟩ := ownB_pos h.1 (by simp)
    injection hg with h1 h2 h3
    subst h1 h3
    refine run_convert_bytes_back wr s t e ⟨g, 0, none⟩ cp (b :: bs) hs he hd fun j hj => ?_
    refine own_news h.1 j _ ?_
    rw [List.getElem?_map, List.getElem?_eq_getElem hj]; rfl
theorem Tryd.infoU8 : (Tryd.prog.info? 5).map (fun i => (i.zero, i.size, i.bytes)) = some (some (.int .u8 0), 1, 1) := by kernel_rfl

set_option maxRecDepth 100000 in
set_option maxHeartbeats 2000000 in
theorem utf_text (rs : List Int) (hl : rs.length ≤ 17592186044416) (A : Option Addr) (cp : Nat) (w : World) (K : Nat → Prop) (hK : ∀ b, K b → b < w.heap.size) (hS : SlAt w K 1 (.slice A rs.length cp) rs.length (rs.map (Value.int .i32))) :
    Calls Tryd.prog 55 #[.slice A rs.length cp] w fun e w' => e = .returned (.string (textS rs)) ∧ Keeps (· < w.heap.size) w w' := by
  have HS := hid hS
  clear hS
  refine calls_hide fun R' hR' => ?_
  go_enter Tryd.func55, Tryd.ntmps55
  go_wp2_with fail
  go_loopw [3, 8] (fun ov iv wr => ∃ (i : Nat) (A' : Option Addr) (cp' : Nat), ov = .slice A' (textB (rs.take i)).length cp' ∧ iv = .int .i64 (i : Int) ∧ i ≤ rs.length ∧ Hid (NewB w wr (.slice A' (textB (rs.take i)).length cp') (textB (rs.take i)))) (fun _ iv _ => rs.length - (intOf iv).toNat)
  case atStart => exact ⟨0, none, 0, rfl, rfl, Nat.zero_le _, hid ⟨⟨rfl, Or.inl ⟨rfl, rfl⟩⟩, Keeps.refl _ _⟩⟩
  case round =>
    obtain ⟨i, A', cp', rfl, rfl, hi, HR⟩ := hrel
    by_cases hlt : i < rs.length
    · have hltI : (i : Int) < (rs.length : Int) := by omega
      obtain ⟨r, hr⟩ : ∃ r, rs[i]? = some r := ⟨_, List.getElem?_eq_getElem hlt⟩
      obtain ⟨b, off, c9, hv, hb, hc⟩ := (HS.out.keep HR.out.2 hK).get i r hr
      injection hv with hA h2 h3
      subst hA h3
      have hBs := HR.out.2.size
      have hbl := textB_len (rs.take i)
      have htl : (rs.take i).length ≤ rs.length := by rw [List.length_take]; omega
      have h4 := encB_four r
      have hes := enc_size r
      have htk : textB (rs.take (i + 1)) = textB (rs.take i) ++ encB r := by
        rw [List.take_add_one, hr]; exact textB_snoc _ _
      have HTK := hid htk
      clear htk hr
      generalize textB (rs.take i) = acc at *
      have hc2 := hc
      obtain ⟨i0, hi, hz0, hz1, hz2⟩ := info_partsF Tryd.infoU8
      go_wp2_with (at_builtin; refine Lib.wpList_append_own_string _ rfl _ _ 67 9 rfl w.heap.size 5 i0 Tryd.underlying67 Tryd.underlying9 hi hz0 hz1 hz2 (.slice A' acc.length cp') acc.length (acc.map u8v) rfl HR.out.1 (Utf8.encode r) rfl ?_ ?_ ?_ ?_)
      all_goals (try (first | (unfold maxLen; omega) | omega))
      intro v' w6 hown hgr _
      obtain ⟨A3, c3, rfl⟩ := ownB_form hown
      have hN := HR.out.app hown hgr
      have HN := hid hN
      clear hN
      clear hown hgr hi hz0 hz1 hz2 HR
      go_wp2_with fail
      go_roundw
      case rel => exact ⟨i + 1, A3, c3, by rw [HTK.out, List.length_append], by go_num, by omega, by rw [HTK.out, List.length_append]; exact HN⟩
      case measure => first | (simp [intOf]; done) | (simp [intOf]; omega)
    · obtain rfl : i = rs.length := by omega
      have hcv := HR.out.conv Tryd.underlying67 Tryd.underlying5 Tryd.underlying9
      rw [List.take_length] at *
      have hts : textS rs = ⟨(textB rs).toArray⟩ := rfl
      rw [← hts] at hcv
      clear hts
      generalize textS rs = ts at *
      go_wp2_with fail
      exact hR'.out _ _ ⟨rfl, HR.out.2⟩
end Go.Proofs.YtbepgbkbpkaodaaDoor

/- The document's layer 4: May, Bytes, at. -/
namespace Go.Proofs.YtbepgbkbpkaodaaDoor
open Go.RowKit

theorem valid_eq (r : Int) : Utf8.valid r = ((decide (0 ≤ r) && decide (r < 55296)) || (decide (57344 ≤ r) && decide (r ≤ 1114111))) := rfl
set_option maxRecDepth 100000 in
set_option maxHeartbeats 1000000 in
theorem ref4_may (r : Int) (w : World) : Calls Tryd.prog 43 #[.int .i32 r] w fun e w' => e = .returned (.bool (Utf8.valid r)) ∧ w = w' := by
  have hv := valid_eq r
  generalize Utf8.valid r = v at *
  have HV := hid hv
  clear hv
  refine calls_hide fun R' hR' => ?_
  go_enter Tryd.func43, Tryd.ntmps43
  by_cases h1 : 0 ≤ r
  · by_cases h2 : r < 55296
    · go_wp2_with fail
      exact hR'.out _ _ ⟨by rw [HV.out]; simp [h1, h2], rfl⟩
    · by_cases h3 : 57344 ≤ r
      · by_cases h4 : r ≤ 1114111
        · go_wp2_with fail
          exact hR'.out _ _ ⟨by rw [HV.out]; simp [h3, h4], rfl⟩
        · go_wp2_with fail
          exact hR'.out _ _ ⟨by rw [HV.out]; simp [h2, h4], rfl⟩
      · have hvb : v = false := by rw [HV.out, decide_eq_false h2, decide_eq_false h3]; simp
        clear HV
        subst hvb
        go_wp2_with fail
        exact hR'.out _ _ ⟨rfl, rfl⟩
  · have h3 : ¬ 57344 ≤ r := by omega
    have hvb : v = false := by rw [HV.out, decide_eq_false h1, decide_eq_false h3]; simp
    clear HV
    subst hvb
    go_wp2_with fail
    exact hR'.out _ _ ⟨rfl, rfl⟩

theorem u8v_of (n : Nat) (h : n < 256) : u8v (UInt8.ofNat n) = .int .u8 (n : Int) := by
  unfold u8v
  rw [UInt8.toNat_ofNat', Nat.mod_eq_of_lt (by omega)]
theorem encB_of (r : Int) (c : Nat) (hc : c = if Utf8.valid r then r.toNat else 65533) : encB r = if c < 128 then [UInt8.ofNat c] else if c < 2048 then [UInt8.ofNat (192 + c / 64), UInt8.ofNat (128 + c % 64)]
    else if c < 65536 then [UInt8.ofNat (224 + c / 4096), UInt8.ofNat (128 + c / 64 % 64), UInt8.ofNat (128 + c % 64)] else [UInt8.ofNat (240 + c / 262144), UInt8.ofNat (128 + c / 4096 % 64), UInt8.ofNat (128 + c / 64 % 64), UInt8.ofNat (128 + c % 64)] := by
  subst hc
  unfold encB
  simp only [Utf8.encode, Utf8.runeError]
  repeat' split
  all_goals rfl
theorem valid_max {r : Int} (h : Utf8.valid r = true) : 0 ≤ r ∧ r ≤ 1114111 := by
  rw [valid_eq] at h
  simp only [Bool.or_eq_true, Bool.and_eq_true, decide_eq_true_eq] at h
  omega
theorem NewB.lit (w : World) (bs : List UInt8) (n : Nat) (T : TypeId) (hT : T = 5) (hn : bs.length = n) (hm : n ≤ 4) : NewB w (w.alloc (.cells (bs.map u8v).toArray T)) (.slice (some ⟨w.heap.size, 0, none⟩) n n) bs := by
  subst hn
  exact ⟨own_lit w w.heap.size _ T 1 _ _ hT (by simp) (by unfold maxLen; omega) (Nat.le_refl _), (Keeps.refl _ _).alloc (fun b hb => hb) _⟩
set_option maxRecDepth 100000 in
set_option maxHeartbeats 4000000 in
theorem ref4_bytes (r : Int) (hr : -2147483648 ≤ r ∧ r ≤ 2147483647) (w : World) : Calls Tryd.prog 31 #[.int .i32 r] w fun e w' => ∃ v, e = .returned v ∧ NewB w w' v (encB r) := by
  obtain ⟨c, hc⟩ : ∃ c : Nat, c = if Utf8.valid r then r.toNat else 65533 := ⟨_, rfl⟩
  have hen := encB_of r c hc
  have hcm : c ≤ 1114111 := by
    rw [hc]
    split
    · rename_i h; have := valid_max h; omega
    · omega
  obtain ⟨x, hx⟩ : ∃ x : Int, x = if Utf8.valid r then r else 65533 := ⟨_, rfl⟩
  have hcx : x = (c : Int) := by
    rw [hx, hc]
    cases h : Utf8.valid r with
    | true => have := valid_max h; rw [if_pos rfl, if_pos rfl]; omega
    | false => rw [if_neg (by decide), if_neg (by decide)]; rfl
  have Hen := hid hen
  have Hc := hid hc
  have Hx := hid hx
  have Hcx := hid hcx
  clear hen hc hx hcx
  refine calls_hide fun R' hR' => ?_
  go_enter Tryd.func31, Tryd.ntmps31
  go_wp2_with fail
  refine (ref4_may r w).mono ?_
  rintro e w1 ⟨rfl, rfl⟩
  cases hv : Utf8.valid r with
  | true =>
    have hrx : r = (c : Int) := by rw [← Hcx.out, Hx.out, hv, if_pos rfl]
    have hr0 : 0 ≤ r := by omega
    have hr1 : r ≤ 1114111 := by omega
    clear Hc Hx Hcx hr
    by_cases h1 : c < 128
    · have h1I : r < 128 := by omega
      have he := Hen.out
      rw [if_pos h1] at he
      have hn := NewB.lit w [UInt8.ofNat c] 1 5 rfl rfl (by decide)
      rw [List.map_cons, List.map_nil, u8v_of c (by omega), ← hrx] at hn
      clear hrx h1 hcm hv
      have He := hid he
      have Hn := hid hn
      clear he hn
      go_wp2_with fail
      exact hR'.out _ _ ⟨_, rfl, by rw [He.out]; exact Hn.out⟩
    have h1I : ¬ r < 128 := by omega
    by_cases h2 : c < 2048
    · have h2I : r < 2048 := by omega
      have he := Hen.out
      rw [if_neg h1, if_pos h2] at he
      have hn := NewB.lit w [UInt8.ofNat (192 + c / 64), UInt8.ofNat (128 + c % 64)] 2 5 rfl rfl (by decide)
      simp only [List.map_cons, List.map_nil] at hn
      rw [u8v_of _ (by omega), u8v_of _ (by omega)] at hn
      have e1 : ((192 + c / 64 : Nat) : Int) = 192 + r / 64 := by omega
      have e2 : ((128 + c % 64 : Nat) : Int) = 128 + r % 64 := by omega
      rw [e1, e2] at hn
      clear e1 e2 h1 h2 hv hrx hcm
      have He := hid he
      have Hn := hid hn
      clear he hn
      go_wp2_with fail
      exact hR'.out _ _ ⟨_, rfl, by rw [He.out]; exact Hn.out⟩
    have h2I : ¬ r < 2048 := by omega
    by_cases h3 : c < 65536
    · have h3I : r < 65536 := by omega
      have he := Hen.out
      rw [if_neg h1, if_neg h2, if_pos h3] at he
      have hn := NewB.lit w [UInt8.ofNat (224 + c / 4096), UInt8.ofNat (128 + c / 64 % 64), UInt8.ofNat (128 + c % 64)] 3 5 rfl rfl (by decide)
      simp only [List.map_cons, List.map_nil] at hn
      rw [u8v_of _ (by omega), u8v_of _ (by omega), u8v_of _ (by omega)] at hn
      have e1 : ((224 + c / 4096 : Nat) : Int) = 224 + r / 4096 := by omega
      have e2 : ((128 + c / 64 % 64 : Nat) : Int) = 128 + r / 64 % 64 := by omega
      have e3 : ((128 + c % 64 : Nat) : Int) = 128 + r % 64 := by omega
      rw [e1, e2, e3] at hn
      clear e1 e2 e3 h1 h2 h3 hv hrx hcm
      have He := hid he
      have Hn := hid hn
      clear he hn
      go_wp2_with fail
      exact hR'.out _ _ ⟨_, rfl, by rw [He.out]; exact Hn.out⟩
    · have h3I : ¬ r < 65536 := by omega
      have he := Hen.out
      rw [if_neg h1, if_neg h2, if_neg h3] at he
      have hn := NewB.lit w [UInt8.ofNat (240 + c / 262144), UInt8.ofNat (128 + c / 4096 % 64), UInt8.ofNat (128 + c / 64 % 64), UInt8.ofNat (128 + c % 64)] 4 5 rfl rfl (by decide)
      simp only [List.map_cons, List.map_nil] at hn
      rw [u8v_of _ (by omega), u8v_of _ (by omega), u8v_of _ (by omega), u8v_of _ (by omega)] at hn
      have e0 : ((240 + c / 262144 : Nat) : Int) = 240 + r / 262144 := by omega
      have e1 : ((128 + c / 4096 % 64 : Nat) : Int) = 128 + r / 4096 % 64 := by omega
      have e2 : ((128 + c / 64 % 64 : Nat) : Int) = 128 + r / 64 % 64 := by omega
      have e3 : ((128 + c % 64 : Nat) : Int) = 128 + r % 64 := by omega
      rw [e0, e1, e2, e3] at hn
      clear e0 e1 e2 e3 h1 h2 h3 hv hrx hcm
      have He := hid he
      have Hn := hid hn
      clear he hn
      go_wp2_with fail
      exact hR'.out _ _ ⟨_, rfl, by rw [He.out]; exact Hn.out⟩
  | false =>
    have hc3 : c = 65533 := by rw [Hc.out, hv, if_neg (by decide)]
    have he := Hen.out
    rw [hc3] at he
    have hn := NewB.lit w [239, 191, 189] 3 5 rfl rfl (by decide)
    have He := hid he
    have Hn := hid hn
    clear he hn
    clear Hc Hx Hcx Hen hcm hc3
    go_wp2_with fail
    exact hR'.out _ _ ⟨_, rfl, by rw [He.out]; exact Hn.out⟩
end Go.Proofs.YtbepgbkbpkaodaaDoor
