/- Layer 4 (utf): contracts of Text and Fit. -/
import Derived.Test.YtbepgbkbpkaodaaDoorUtfA
import Derived.Lib.AppendStr
import Derived.Laws.Runes
import Derived.Outline
namespace Go.Proofs.YtbepgbkbpkaodaaDoor
open Go.RowKit

/-- a rune's bytes -/
def encB (r : Int) : List UInt8 := (Utf8.encode r).data.toList
def textB (rs : List Int) : List UInt8 := rs.flatMap encB
def textS (rs : List Int) : ByteArray := ⟨(textB rs).toArray⟩
def u8v (b : UInt8) : Value := .int .u8 (b.toNat : Int)
theorem strCells_enc (r : Int) : Lib.strCells (Utf8.encode r) = (encB r).map u8v := rfl
theorem enc_size (r : Int) : (Utf8.encode r).size = (encB r).length := rfl
theorem encB_four (r : Int) : (encB r).length ≤ 4 := by
  unfold encB
  simp only [Utf8.encode]
  repeat' split
  all_goals simp
theorem encB_pos (r : Int) : 0 < (encB r).length := by
  unfold encB
  simp only [Utf8.encode]
  repeat' split
  all_goals simp
theorem textB_len (rs : List Int) : (textB rs).length ≤ 4 * rs.length := by
  induction rs with
  | nil => simp [textB]
  | cons r rs ih =>
    have := encB_four r
    simp only [textB, List.flatMap_cons, List.length_append, List.length_cons] at *
    omega
theorem textB_snoc (rs : List Int) (r : Int) : textB (rs ++ [r]) = textB rs ++ encB r := by simp [textB]
theorem textB_cons (rs : List Int) (r : Int) : textB (r :: rs) = encB r ++ textB rs := by simp [textB]

/-- an own row of bytes in a new block -/
def NewB (w0 w : World) (v : Value) (bs : List UInt8) : Prop := w.ownsRow w0.heap.size 5 1 v bs.length (bs.map u8v) ∧ Keeps (· < w0.heap.size) w0 w
theorem NewB.app {w0 wr w' : World} {v v' : Value} {acc : List UInt8} {r : Int} (h : NewB w0 wr v acc) (hown : w'.ownsRow w0.heap.size 5 1 v' (acc.length + (Utf8.encode r).size) (acc.map u8v ++ Lib.strCells (Utf8.encode r))) (hg : wr.grownBy w' v.ownBlock) : NewB w0 w' v' (acc ++ encB r) := by
  refine ⟨by rw [List.length_append, List.map_append]; exact hown, keeps_grown h.2 h.2.size h.1 hg⟩
theorem NewB.conv {w0 wr : World} {A : Option Addr} {cp : Nat} {bs : List UInt8} {s t e : TypeId} {P : Program} (hs : P.underlying s = some (.slice e)) (he : P.underlying e = some (.int .u8)) (hd : P.underlying t = some .string)
    (h : NewB w0 wr (.slice A bs.length cp) bs) : (convert s t (.slice A bs.length cp)).run P wr = .ok (.string ⟨bs.toArray⟩) wr := by
  cases bs with
  | nil =>
    rw [run_convert_bytes_string wr s t e A _ cp hs he hd]
    cases A <;> rfl
  | cons b bs =>
    obtain ⟨g, c, hg⟩ := ownB_pos h.1 (by simp)
    injection hg with h1 h2 h3
    subst h1 h3
    refine run_convert_bytes_back wr s t e ⟨g, 0, none⟩ cp (b :: bs) hs he hd fun j hj => ?_
    refine own_news h.1 j _ ?_
    rw [List.getElem?_map, List.getElem?_eq_getElem hj]; rfl
theorem Tryd.infoU8 : (Tryd.prog.info? 5).map (fun i => (i.zero, i.size, i.bytes)) = some (some (.int .u8 0), 1, 1) := by kernel_rfl

set_option maxRecDepth 100000 in
set_option maxHeartbeats 2000000 in
theorem utf_text (rs : List Int) (hl : rs.length ≤ 17592186044416) (A : Option Addr) (cp : Nat) (w : World) (K : Nat → Prop) (hK : ∀ b, K b → b < w.heap.size) (hS : SlAt w K 1 (.slice A rs.length cp) rs.length (rs.map (Value.int .i32))) :
    Calls Tryd.prog 55 #[.slice A rs.length cp] w fun e w' => e = .returned (.string (textS rs)) ∧ Keeps (· < w.heap.size) w w' := by
  have HS := hid hS
  clear hS
  refine calls_hide fun R' hR' => ?_
  go_enter Tryd.func55, Tryd.ntmps55
  go_wp2_with fail
  go_loopw [3, 8] (fun ov iv wr => ∃ (i : Nat) (A' : Option Addr) (cp' : Nat), ov = .slice A' (textB (rs.take i)).length cp' ∧ iv = .int .i64 (i : Int) ∧ i ≤ rs.length ∧ Hid (NewB w wr (.slice A' (textB (rs.take i)).length cp') (textB (rs.take i)))) (fun _ iv _ => rs.length - (intOf iv).toNat)
  case atStart => exact ⟨0, none, 0, rfl, rfl, Nat.zero_le _, hid ⟨⟨rfl, Or.inl ⟨rfl, rfl⟩⟩, Keeps.refl _ _⟩⟩
  case round =>
    obtain ⟨i, A', cp', rfl, rfl, hi, HR⟩ := hrel
    by_cases hlt : i < rs.length
    · have hltI : (i : Int) < (rs.length : Int) := by omega
      obtain ⟨r, hr⟩ : ∃ r, rs[i]? = some r := ⟨_, List.getElem?_eq_getElem hlt⟩
      obtain ⟨b, off, c9, hv, hb, hc⟩ := (HS.out.keep HR.out.2 hK).get i r hr
      injection hv with hA h2 h3
      subst hA h3
      have hBs := HR.out.2.size
      have hbl := textB_len (rs.take i)
      have htl : (rs.take i).length ≤ rs.length := by rw [List.length_take]; omega
      have h4 := encB_four r
      have hes := enc_size r
      have htk : textB (rs.take (i + 1)) = textB (rs.take i) ++ encB r := by
        rw [List.take_add_one, hr]; exact textB_snoc _ _
      have HTK := hid htk
      clear htk hr
      generalize textB (rs.take i) = acc at *
      have hc2 := hc
      obtain ⟨i0, hi, hz0, hz1, hz2⟩ := info_partsF Tryd.infoU8
      go_wp2_with (at_builtin; refine Lib.wpList_append_own_string _ rfl _ _ 67 9 rfl w.heap.size 5 i0 Tryd.underlying67 Tryd.underlying9 hi hz0 hz1 hz2 (.slice A' acc.length cp') acc.length (acc.map u8v) rfl HR.out.1 (Utf8.encode r) rfl ?_ ?_ ?_ ?_)
      all_goals (try (first | (unfold maxLen; omega) | omega))
      intro v' w6 hown hgr _
      obtain ⟨A3, c3, rfl⟩ := ownB_form hown
      have hN := HR.out.app hown hgr
      have HN := hid hN
      clear hN
      clear hown hgr hi hz0 hz1 hz2 HR
      go_wp2_with fail
      go_roundw
      case rel => exact ⟨i + 1, A3, c3, by rw [HTK.out, List.length_append], by go_num, by omega, by rw [HTK.out, List.length_append]; exact HN⟩
      case measure => first | (simp [intOf]; done) | (simp [intOf]; omega)
    · obtain rfl : i = rs.length := by omega
      have hcv := HR.out.conv Tryd.underlying67 Tryd.underlying5 Tryd.underlying9
      rw [List.take_length] at *
      have hts : textS rs = ⟨(textB rs).toArray⟩ := rfl
      rw [← hts] at hcv
      clear hts
      generalize textS rs = ts at *
      go_wp2_with fail
      exact hR'.out _ _ ⟨rfl, HR.out.2⟩
end Go.Proofs.YtbepgbkbpkaodaaDoor
