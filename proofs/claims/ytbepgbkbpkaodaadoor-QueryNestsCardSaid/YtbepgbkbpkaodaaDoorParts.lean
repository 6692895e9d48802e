/- The document's layer 17: word, Parts. -/
import Derived.Test.YtbepgbkbpkaodaaDoorRef6
import Derived.Test.YtbepgbkbpkaodaaDoorSamA
namespace Go.Proofs.YtbepgbkbpkaodaaDoor
open Go.RowKit

def fieldQ (l : List Int) : Bool := decide ((l.takeWhile isW).length = 1 ∧ 48 ≤ l.head?.getD 0 ∧ l.head?.getD 0 ≤ 51 ∧ (l.dropWhile isW).head? = some 58)
def signQ (c : Int) : Bool := c == 40 || c == 41 || c == 38 || c == 124 || c == 33 || c == 35 || c == 64
def fieldT (c : Int) : ByteArray := ⟨#[UInt8.ofNat c.toNat]⟩
/-- a text's parts -/
def partsF : Nat → List Int → List (Int × ByteArray)
  | 0, _ => []
  | _ + 1, [] => []
  | f + 1, c :: l =>
    if fieldQ (c :: l) = true then (102, fieldT c) :: partsF f ((c :: l).dropWhile isW).tail
    else if isW c = true then (119, textS ((c :: l).takeWhile isW)) :: partsF f ((c :: l).dropWhile isW)
    else if isBl c = true then partsF f l
    else if c = 34 then (if l.dropWhile (· != 34) = [] then [(120, ⟨#[]⟩)] else (112, textS (l.takeWhile (· != 34))) :: partsF f (l.dropWhile (· != 34)).tail)
    else if signQ c = true then (c, ⟨#[]⟩) :: partsF f l
    else [(120, ⟨#[]⟩)]
theorem partsF_cons (f : Nat) (c : Int) (l : List Int) : partsF (f + 1) (c :: l) = if fieldQ (c :: l) = true then (102, fieldT c) :: partsF f ((c :: l).dropWhile isW).tail
    else if isW c = true then (119, textS ((c :: l).takeWhile isW)) :: partsF f ((c :: l).dropWhile isW)
    else if isBl c = true then partsF f l
    else if c = 34 then (if l.dropWhile (· != 34) = [] then [(120, ⟨#[]⟩)] else (112, textS (l.takeWhile (· != 34))) :: partsF f (l.dropWhile (· != 34)).tail)
    else if signQ c = true then (c, ⟨#[]⟩) :: partsF f l
    else [(120, ⟨#[]⟩)] := rfl
theorem field_len {c : Int} {l : List Int} (h : fieldQ (c :: l) = true) : ((c :: l).dropWhile isW).tail.length < l.length + 1 := by
  have := dw_le isW (c :: l)
  unfold fieldQ at h
  have h2 := (of_decide_eq_true h).2.2.2
  cases hd : (c :: l).dropWhile isW with
  | nil => rw [hd] at h2; cases h2
  | cons a t => rw [hd] at this; simp at this ⊢; omega
theorem word_len {c : Int} {l : List Int} (h : isW c = true) : ((c :: l).dropWhile isW).length ≤ l.length := by
  rw [List.dropWhile_cons_of_pos h]; exact dw_le _ _
theorem partsF_more : ∀ (f : Nat) (l : List Int), l.length ≤ f → partsF (f + 1) l = partsF f l
  | 0, l, h => by
    have : l = [] := List.eq_nil_of_length_eq_zero (by omega)
    subst this; rfl
  | f + 1, [], _ => rfl
  | f + 1, c :: l, h => by
    rw [List.length_cons] at h
    rw [partsF_cons, partsF_cons]
    by_cases h1 : fieldQ (c :: l) = true
    · have := field_len h1
      rw [if_pos h1, if_pos h1, partsF_more f _ (by omega)]
    rw [if_neg h1, if_neg h1]
    by_cases h2 : isW c = true
    · have := word_len (l := l) h2
      rw [if_pos h2, if_pos h2, partsF_more f _ (by omega)]
    rw [if_neg h2, if_neg h2, partsF_more f l (by omega)]
    have h3 := dw_le (· != 34) l
    rw [partsF_more f (l.dropWhile (· != 34)).tail (by rw [List.length_tail]; omega)]
def partsR (l : List Int) : List (Int × ByteArray) := partsF l.length l
theorem partsF_any (f : Nat) (l : List Int) (h : l.length ≤ f) : partsF f l = partsR l := by
  obtain ⟨g, rfl⟩ : ∃ g, f = l.length + g := ⟨f - l.length, by omega⟩
  clear h
  induction g with
  | zero => rfl
  | succ g ih => rw [← Nat.add_assoc, partsF_more _ _ (by omega)]; exact ih
theorem partsR_cons (c : Int) (l : List Int) : partsR (c :: l) = if fieldQ (c :: l) = true then (102, fieldT c) :: partsR ((c :: l).dropWhile isW).tail
    else if isW c = true then (119, textS ((c :: l).takeWhile isW)) :: partsR ((c :: l).dropWhile isW)
    else if isBl c = true then partsR l
    else if c = 34 then (if l.dropWhile (· != 34) = [] then [(120, ⟨#[]⟩)] else (112, textS (l.takeWhile (· != 34))) :: partsR (l.dropWhile (· != 34)).tail)
    else if signQ c = true then (c, ⟨#[]⟩) :: partsR l
    else [(120, ⟨#[]⟩)] := by
  show partsF (l.length + 1) (c :: l) = _
  rw [partsF_cons]
  have h3 := dw_le (· != 34) l
  rw [partsF_any l.length (l.dropWhile (· != 34)).tail (by rw [List.length_tail]; omega), partsF_any l.length l (Nat.le_refl _)]
  by_cases h1 : fieldQ (c :: l) = true
  · have := field_len h1
    rw [if_pos h1, if_pos h1, partsF_any l.length _ (by omega)]
  rw [if_neg h1, if_neg h1]
  by_cases h2 : isW c = true
  · have := word_len (l := l) h2
    rw [if_pos h2, if_pos h2, partsF_any l.length _ (by omega)]
  rw [if_neg h2, if_neg h2]

/-- a piece of a row -/
theorem SlAt.sub {w : World} {K : Nat → Prop} {g c i j : Nat} {rs : List Int} {f : Int → Value} (h : SlAt w K 1 (.slice (some ⟨g, 0, none⟩) rs.length c) rs.length (rs.map f)) (hij : i ≤ j) (hj : j ≤ rs.length) :
    SlAt w K 1 (.slice (some ⟨g, i, none⟩) (j - i) (c - i)) (j - i) (((rs.drop i).take (j - i)).map f) := by
  obtain ⟨A', cap, h1, h2, h3, h4, h5⟩ := h
  injection h1 with ha _ hc
  subst ha hc
  refine ⟨_, _, rfl, by omega, by omega, by simp; omega, fun hn => ?_⟩
  obtain ⟨b', off, e, hb, hc⟩ := h5 (by omega)
  injection e with e
  injection e with e1 e2
  subst e1
  have e2 : off = 0 := e2.symm
  subst e2
  refine ⟨g, i, rfl, hb, fun k u hu => ?_⟩
  have hk : k < j - i := by have := (List.getElem?_eq_some_iff.1 hu).1; simp at this; omega
  have := hc (i + k) u (by
    rw [List.getElem?_map, List.getElem?_take_of_lt hk, List.getElem?_drop] at hu
    rw [List.getElem?_map]; exact hu)
  rw [Nat.zero_add] at this
  exact this

set_option maxRecDepth 100000 in
set_option maxHeartbeats 4000000 in
theorem ref17_word (rs : List Int) (hl : rs.length ≤ 1000000) (hrb : ∀ r ∈ rs, 0 ≤ r ∧ r ≤ 1114111) (A : Option Addr) (c : Nat) (i : Nat) (hi : i ≤ rs.length) (w : World) (K : Nat → Prop) (hS : SlAt w K 1 (.slice A rs.length c) rs.length (rs.map (Value.int .i32))) :
    Calls Tryd.prog 33 #[.slice A rs.length c, .int .i64 (i : Int)] w fun e w' => e = .returned (.int .i64 (((rs.drop i).takeWhile isW).length : Int)) ∧ w = w' := by
  have HS := hid hS
  have Hrb := hid hrb
  clear hS hrb
  refine calls_hide fun R' hR' => ?_
  go_enter Tryd.func33, Tryd.ntmps33
  go_wp2_with fail
  go_loopw [5] (fun nv wr => ∃ k : Nat, nv = .int .i64 (k : Int) ∧ i + k ≤ rs.length ∧ w = wr ∧ Hid (((rs.drop i).takeWhile isW).length = k + ((rs.drop (i + k)).takeWhile isW).length)) (fun nv _ => rs.length - (intOf nv).toNat)
  case atStart => exact ⟨0, rfl, hi, rfl, hid (by simp)⟩
  case round =>
    obtain ⟨k, rfl, hk, rfl, HE⟩ := hrel
    by_cases hlt : i + k < rs.length
    · have hltI : (i : Int) + (k : Int) < (rs.length : Int) := by omega
      obtain ⟨r, hr⟩ : ∃ r, rs[i + k]? = some r := ⟨_, List.getElem?_eq_getElem hlt⟩
      obtain ⟨hr0, hr1⟩ := Hrb.out r (List.mem_of_getElem? hr)
      obtain ⟨b, off, c9, hv, hb, hc⟩ := HS.out.get (i + k) r hr
      injection hv with hA _ h3
      subst hA h3
      have hd : rs.drop (i + k) = r :: rs.drop (i + (k + 1)) := by
        obtain ⟨h9, h8⟩ := List.getElem?_eq_some_iff.1 hr
        rw [List.drop_eq_getElem_cons h9, h8]; rfl
      have hex := HE.out
      rw [hd] at hex
      clear hd hr
      go_wp2_with fail
      refine (ref5_class r w hr0 hr1).mono ?_
      rintro e w2 ⟨rfl, rfl⟩
      have hwc : isW r = !(classM r == 0) := rfl
      generalize classM r = cr at *
      by_cases hcl : cr = 0
      · have hcb : (cr == 0) = true := by simp [hcl]
        have hcb2 : (cr != 0) = false := by simp [hcl]
        rw [List.takeWhile_cons_of_neg (by rw [hwc, hcb]; decide)] at hex
        clear hcl hwc
        have hex : ((rs.drop i).takeWhile isW).length = k := hex
        have Hex := hid hex
        clear hex
        go_wp2_with fail
        exact hR'.out _ _ ⟨by first | (rw [Hex.out]; done) | (rw [Hex.out]; rfl), rfl⟩
      · have hcb : (cr == 0) = false := by simpa using hcl
        have hcb2 : (cr != 0) = true := by simpa using hcl
        rw [List.takeWhile_cons_of_pos (by rw [hwc, hcb]; decide), List.length_cons] at hex
        clear hcl hwc
        have hex : ((rs.drop i).takeWhile isW).length = (k + 1) + ((rs.drop (i + (k + 1))).takeWhile isW).length := by omega
        have Hex := hid hex
        clear hex
        go_wp2_with fail
        go_roundw
        case rel => exact ⟨k + 1, by go_num, by omega, by first | trivial | rfl, Hex⟩
        case measure => first | (simp [intOf]; done) | (simp [intOf]; omega)
    · have hltI : ¬ (i : Int) + (k : Int) < (rs.length : Int) := by omega
      have hex := HE.out
      rw [List.drop_eq_nil_of_le (by omega : rs.length ≤ i + k)] at hex
      have hex : ((rs.drop i).takeWhile isW).length = k := hex
      have Hex := hid hex
      clear hex
      go_wp2_with fail
      exact hR'.out _ _ ⟨by first | (rw [Hex.out]; done) | (rw [Hex.out]; rfl), rfl⟩
end Go.Proofs.YtbepgbkbpkaodaaDoor
