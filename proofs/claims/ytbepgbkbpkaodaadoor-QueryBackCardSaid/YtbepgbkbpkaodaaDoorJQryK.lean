/- Layer 17 (query): limit. -/
import Derived.Test.YtbepgbkbpkaodaaDoorJQryI
import Derived.BigRegion
namespace Go.Proofs.YtbepgbkbpkaodaaDoor
open Go.RowKit

def limL (acc : Int) : List UInt8 → Option Int
  | [] => some acc
  | b :: l => if b.toNat < 48 ∨ 57 < b.toNat then none else limL (min (10 * acc + ((b.toNat : Int) - 48)) 1000) l
theorem limL_cons (acc : Int) (b : UInt8) (l : List UInt8) : limL acc (b :: l) = if b.toNat < 48 ∨ 57 < b.toNat then none else limL (min (10 * acc + ((b.toNat : Int) - 48)) 1000) l := rfl
def limOk (t : ByteArray) (n : Int) : Bool := !(decide (t.size < 1) || decide (3 < t.size) || (decide (1 < t.size) && (t.data.toList[0]?.getD 0).toNat == 48) || decide (64 < n))
def limitP (t : ByteArray) : Option Int := match limL 0 t.data.toList with
  | none => none
  | some n => if limOk t n = true then some n else none
theorem textS_size (rs : List Int) : (textS rs).size = (textB rs).length := rfl
theorem nextW_size {rs : List Int} (p : Nat) (h : rs.length ≤ 256) : (nextW rs p).size ≤ 1024 := by
  unfold nextW
  rw [textS_size]
  have h1 := textB_len ((rs.drop (skipB rs p)).takeWhile isW)
  have h2 := (List.takeWhile_sublist isW (l := rs.drop (skipB rs p))).length_le
  rw [List.length_drop] at h2
  omega

set_option maxRecDepth 100000 in
set_option maxHeartbeats 2000000 in
theorem query_limit {w : World} {b c p : Nat} {A : Option Addr} {rs : List Int} (h : Rd w b A c rs p) : Calls Tryd.prog 26 #[.pointer (some ⟨b, 0, none⟩)] w fun e w' => e = (match limitP (nextW rs p) with | some k => .returned (.int .i64 k) | none => thrown 8) ∧ Rd w' b A c rs (wordE rs (skipB rs p)) ∧ Mv b w w' := by
  have hsz := nextW_size p h.len
  have HR := hid h
  clear h
  refine calls_hide fun R' hR' => ?_
  go_enter Tryd.func26, Tryd.ntmps26
  go_wp2_with fail
  refine (query_blanks HR.out).mono ?_
  rintro e w1 ⟨rfl, hQ, hM⟩
  have HQ := hid hQ
  have HM := hid hM
  clear hQ hM
  clear HR
  go_wp2_with fail
  refine (query_word HQ.out).mono ?_
  rintro e w2 ⟨rfl, hQ2, hM2⟩
  have hM3 := HM.out.trans hM2
  have hnw : nextW rs p = textS ((rs.drop (skipB rs p)).takeWhile isW) := rfl
  rw [← hnw]
  clear hnw HQ HM hM2
  generalize nextW rs p = t at *
  have HQ2 := hid hQ2
  have HM3 := hid hM3
  clear hQ2 hM3
  go_wp2_with fail
  go_loopw [4, 12] (fun nv iv wr => ∃ (n : Int) (i : Nat), nv = .int .i64 n ∧ iv = .int .i64 (i : Int) ∧ 0 ≤ n ∧ n ≤ 1000 ∧ i ≤ t.size ∧ w2 = wr ∧ Hid (limL n (t.data.toList.drop i) = limL 0 t.data.toList)) (fun _ iv _ => t.size - (intOf iv).toNat)
  case atStart => exact ⟨0, 0, rfl, rfl, by decide, by decide, Nat.zero_le _, rfl, hid rfl⟩
  case round =>
    obtain ⟨n, i, rfl, rfl, hn0, hn1, hi, rfl, HE⟩ := hrel
    by_cases hlt : i < t.size
    · have hltI : (i : Int) < (t.size : Int) := by omega
      have hd : t.data.toList.drop i = t[i] :: t.data.toList.drop (i + 1) := by
        rw [List.drop_eq_getElem_cons (show i < t.data.toList.length by simpa using hlt)]; rfl
      have hex := HE.out
      rw [hd, limL_cons] at hex
      have hb8 : t[i].toNat < 256 := t[i].toNat_lt
      clear hd HE
      generalize hbt : t[i].toNat = bt at *
      have HBT := hid hbt
      by_cases g1 : bt < 48
      · have hl : limitP t = none := by unfold limitP; rw [← hex, if_pos (Or.inl g1)]
        have Hl := hid hl
        have Hex := hid hex
        clear hl hex
        have g1I : (bt : Int) < 48 := by omega
        go_wp2_with fail
        exact post_thrown (hR'.out _ _ ⟨by rw [Hl.out]; rfl, HQ2.out, HM3.out⟩)
      have g1I : ¬ (bt : Int) < 48 := by omega
      by_cases g2 : 57 < bt
      · have hl : limitP t = none := by unfold limitP; rw [← hex, if_pos (Or.inr g2)]
        have Hl := hid hl
        have Hex := hid hex
        clear hl hex
        have g2I : 57 < (bt : Int) := by omega
        go_wp2_with fail
        exact post_thrown (hR'.out _ _ ⟨by rw [Hl.out]; rfl, HQ2.out, HM3.out⟩)
      have g2I : ¬ 57 < (bt : Int) := by omega
      rw [if_neg (by omega)] at hex
      by_cases g3 : 10 * n + ((bt : Int) - 48) ≤ 1000
      · rw [Int.min_eq_left g3] at hex
        have Hex := hid hex
        clear hex
        go_wp2_with fail
        go_roundw
        case rel => exact ⟨10 * n + ((bt : Int) - 48), i + 1, by first | rfl | go_num, by go_num, by omega, by omega, by omega, by first | trivial | rfl, Hex⟩
        case measure => first | (simp [intOf]; done) | (simp [intOf]; omega)
      · rw [Int.min_eq_right (by omega)] at hex
        have Hex := hid hex
        clear hex
        go_wp2_with fail
        go_roundw
        case rel => exact ⟨1000, i + 1, by first | rfl | go_num, by go_num, by omega, by omega, by omega, by first | trivial | rfl, Hex⟩
        case measure => first | (simp [intOf]; done) | (simp [intOf]; omega)
    · have hex := HE.out
      rw [List.drop_eq_nil_of_le (by simpa using (by omega : t.size ≤ i))] at hex
      have hex : limL 0 t.data.toList = some n := hex.symm
      have hlp : limitP t = if limOk t n = true then some n else none := by unfold limitP; rw [hex]
      clear hex HE
      have hltI : ¬ (i : Int) < (t.size : Int) := by omega
      by_cases s1 : t.size < 1
      · have hl : limitP t = none := by rw [hlp, if_neg (by unfold limOk; simp [s1])]
        have Hl := hid hl
        have Hlp := hid hlp
        clear hl hlp
        go_wp2_with fail
        exact post_thrown (hR'.out _ _ ⟨by rw [Hl.out]; rfl, HQ2.out, HM3.out⟩)
      by_cases s2 : 3 < t.size
      · have hl : limitP t = none := by rw [hlp, if_neg (by unfold limOk; simp [s2])]
        have s2I : 3 < (t.size : Int) := by omega
        have Hl := hid hl
        have Hlp := hid hlp
        clear hl hlp
        go_wp2_with fail
        exact post_thrown (hR'.out _ _ ⟨by rw [Hl.out]; rfl, HQ2.out, HM3.out⟩)
      by_cases s4 : 64 < n
      · have hl : limitP t = none := by rw [hlp, if_neg (by unfold limOk; simp [s4])]
        have Hl := hid hl
        have Hlp := hid hlp
        clear hl hlp
        by_cases s3 : 1 < t.size
        · have s3I : 1 < (t.size : Int) := by omega
          have h0 : 0 < t.size := by omega
          generalize hz : t[0].toNat = z at *
          by_cases hz0 : z = 48
          · have hzb : ((z : Int) == 48) = true := by simp [hz0]
            go_wp2_with fail
            exact post_thrown (hR'.out _ _ ⟨by rw [Hl.out]; rfl, HQ2.out, HM3.out⟩)
          · have hzb : ((z : Int) == 48) = false := by simp; omega
            go_wp2_with fail
            exact post_thrown (hR'.out _ _ ⟨by rw [Hl.out]; rfl, HQ2.out, HM3.out⟩)
        · have s3I : ¬ 1 < (t.size : Int) := by omega
          go_wp2_with fail
          exact post_thrown (hR'.out _ _ ⟨by rw [Hl.out]; rfl, HQ2.out, HM3.out⟩)
      by_cases s3 : 1 < t.size
      · have s3I : 1 < (t.size : Int) := by omega
        have h0 : 0 < t.size := by omega
        have h00 : (t.data.toList[0]?.getD 0) = t[0] := by rw [List.getElem?_eq_getElem (show 0 < t.data.toList.length by simpa using h0)]; rfl
        generalize hz : t[0].toNat = z at *
        by_cases hz0 : z = 48
        · have hzb : ((z : Int) == 48) = true := by simp [hz0]
          have hl : limitP t = none := by rw [hlp, if_neg (by unfold limOk; rw [h00, hz]; simp [s3, hz0])]
          have Hl := hid hl
          have Hlp := hid hlp
          have H00 := hid h00
          clear hl hlp h00
          go_wp2_with fail
          exact post_thrown (hR'.out _ _ ⟨by rw [Hl.out]; rfl, HQ2.out, HM3.out⟩)
        · have hzb : ((z : Int) == 48) = false := by simp; omega
          have hl : limitP t = some n := by rw [hlp, if_pos (by unfold limOk; rw [h00, hz]; simp [s1, s2, s4, hz0] <;> omega)]
          have Hl := hid hl
          have Hlp := hid hlp
          have H00 := hid h00
          clear hl hlp h00
          go_wp2_with fail
          exact hR'.out _ _ ⟨by first | (rw [Hl.out]; done) | (rw [Hl.out]; rfl), HQ2.out, HM3.out⟩
      · have s3I : ¬ 1 < (t.size : Int) := by omega
        have hl : limitP t = some n := by rw [hlp, if_pos (by unfold limOk; simp [s1, s2, s3, s4] <;> omega)]
        have Hl := hid hl
        have Hlp := hid hlp
        clear hl hlp
        go_wp2_with fail
        exact hR'.out _ _ ⟨by first | (rw [Hl.out]; done) | (rw [Hl.out]; rfl), HQ2.out, HM3.out⟩
end Go.Proofs.YtbepgbkbpkaodaaDoor

/- Layer 17 (query): leaf: what it answers; a cell of an own row is stored. -/
namespace Go.Proofs.YtbepgbkbpkaodaaDoor
open Go.RowKit

theorem ownB_set {w : World} {B E n sz g cap k : Nat} {xs : List Value} (h : w.ownsRow B E sz (.slice (some ⟨g, 0, none⟩) n cap) n xs) (hn : 0 < n) (hk : k < xs.length) (u : Value) : (w.setCell ⟨g, k, none⟩ u).ownsRow B E sz (.slice (some ⟨g, 0, none⟩) n cap) n (xs.set k u) := by
  refine ⟨by rw [List.length_set]; exact h.1, ?_⟩
  rcases h.2 with ⟨h1, h2⟩ | ⟨g', c', cur, h1, h2, h3, h4, h5, h6, h7⟩
  · omega
  · injection h1 with e1 e2 e3
    injection e1 with e1
    injection e1 with e1
    subst e1 e3
    refine Or.inr ⟨g, cap, cur.setIfInBounds k u, rfl, h2, by simp [World.setCell, Array.getElem?_modify, h3], h4, h5, by simpa using h6, ?_⟩
    rw [Array.toList_setIfInBounds, List.take_set, h7]
theorem ownB_free {w : World} {B E n sz g cap : Nat} {xs : List Value} (h : w.ownsRow B E sz (.slice (some ⟨g, 0, none⟩) n cap) n xs) (hn : 0 < n) (k : Nat) : w.frozen? ⟨g, k, none⟩ = false := by
  rcases h.2 with ⟨h1, h2⟩ | ⟨g', c', cur, h1, h2, h3, h4⟩
  · omega
  · injection h1 with e1 e2 e3
    injection e1 with e1
    injection e1 with e1
    subst e1
    simp [World.frozen?, h3]

/-- a leaf's words: the field, the text, the place behind the first one's -/
def tokF (f : Int) (t : ByteArray × Int) : List Value := [.int .u8 f, .string t.1, .int .i64 t.2]
def relT (ts : List (ByteArray × Nat)) : List (ByteArray × Int) := ts.map fun t => (t.1, (t.2 : Int) - ((ts.head?.map (·.2)).getD 0 : Nat))
/-- how a quoted text ends -/
def quoteE (rs : List Int) (p : Nat) : Nat := p + ((rs.drop p).takeWhile (· != 34)).length
/-- a leaf's field, its text and the place behind it -/
def fieldP (rs : List Int) (p : Nat) : Option (Int × ByteArray × Nat) :=
  let t1 := textS ((rs.drop p).takeWhile isW)
  let b0 := (t1.data.toList[0]?.getD 0).toNat
  if t1.size = 1 ∧ 48 ≤ b0 ∧ b0 ≤ 51 ∧ runeAt rs (wordE rs p) = 58 then some ((b0 : Int) - 48, nextW rs (wordE rs p + 1), wordE rs (skipB rs (wordE rs p + 1))) else none
def leafT (rs : List Int) (f : Int) (t : ByteArray) (p : Nat) : Except Int ((Int × ByteArray) × Nat) :=
  if t.size ≠ 0 then .ok ((f, t), p)
  else if signB rs p 34 = true then (if quoteE rs (signP rs p 34) < rs.length then .ok ((f, textS ((rs.drop (signP rs p 34)).takeWhile (· != 34))), quoteE rs (signP rs p 34) + 1) else .error 8)
  else .error 8
def leafP (rs : List Int) (p : Nat) : Except Int ((Int × ByteArray) × Nat) :=
  match fieldP rs p with
  | some (f, t, q) => leafT rs f t q
  | none => leafT rs 0 (textS ((rs.drop p).takeWhile isW)) (wordE rs p)
end Go.Proofs.YtbepgbkbpkaodaaDoor
