/- Layer 4 (utf): contract of Fit. -/
import Derived.Test.YtbepgbkbpkaodaaDoorJRefU
namespace Go.Proofs.YtbepgbkbpkaodaaDoor
open Go.RowKit

/-- the first runes that fit -/
def fitL (n : Nat) (acc : List UInt8) : List Int → List UInt8
  | [] => acc
  | r :: rs => if (encB r).length + acc.length > n then acc else fitL n (acc ++ encB r) rs
theorem fitL_cons (n : Nat) (acc : List UInt8) (r : Int) (rs : List Int) : fitL n acc (r :: rs) = if (encB r).length + acc.length > n then acc else fitL n (acc ++ encB r) rs := rfl
def fitS (n : Nat) (rs : List Int) : ByteArray := ⟨(fitL n [] rs).toArray⟩
def u8i (bs : List UInt8) : List Int := bs.map fun b => (b.toNat : Int)
theorem u8i_map (bs : List UInt8) : (u8i bs).map (Value.int .u8) = bs.map u8v := by unfold u8i; rw [List.map_map]; rfl
theorem u8i_len (bs : List UInt8) : (u8i bs).length = bs.length := by unfold u8i; simp
theorem ItRow.newB {w wr : World} {s : ByteArray} {pos : Nat} {v : Value} {acc : List UInt8} (h : ItRow w wr s pos 5 (Value.int .u8) v (u8i acc)) : NewB w wr v acc := by
  have := h.new
  unfold NewRow at this
  rw [u8i_map, u8i_len] at this
  exact this

set_option maxRecDepth 100000 in
set_option maxHeartbeats 2000000 in
theorem utf_fit (s : ByteArray) (hs : s.size ≤ 17592186044416) (n : Nat) (hn : n ≤ 1000) (w : World) :
    Calls Tryd.prog 65 #[.string s, .int .i64 n] w fun e w' => e = .returned (.string (fitS n (runesS s))) ∧ Keeps (· < w.heap.size) w w' := by
  have h0 : ItRow w (w.iter s 0) s 0 5 (Value.int .u8) (.slice none 0 0) (u8i []) := ⟨World.iter_heap w s 0, ⟨rfl, Or.inl ⟨rfl, rfl⟩⟩, (Keeps.refl _ _).alloc (fun b hb => hb) _, by simp [World.iter]⟩
  have H0 := hid h0
  clear h0
  refine calls_hide fun R' hR' => ?_
  go_enter Tryd.func65, Tryd.ntmps65
  go_wp2_with fail
  go_loopw [5] (fun ov wr => ∃ (pos : Nat) (acc : List UInt8) (A : Option Addr) (cp : Nat), ov = .slice A acc.length cp ∧ acc.length ≤ n ∧ pos ≤ s.size + 4 ∧ wr.heap[w.heap.size]? = some (.stringIter s pos) ∧ Hid (ItRow w wr s pos 5 (Value.int .u8) (.slice A acc.length cp) (u8i acc)) ∧ Hid (fitL n acc (runesF s s.size pos) = fitL n [] (runesS s))) (fun _ wr => s.size + 4 - wr.iterPos w.heap.size)
  case atStart => exact ⟨0, [], none, 0, rfl, Nat.zero_le _, Nat.zero_le _, H0.out.it, H0, hid rfl⟩
  case round =>
    obtain ⟨pos, acc, A, cp, rfl, hap, hps, hit, HR, HE⟩ := hrel
    by_cases hp : pos < s.size
    · have hnx : ∀ ty, (Instr.next (.pointer (some ⟨w.heap.size, 0, none⟩)) true ty).run Tryd.prog wr = _ := fun ty => Lib.run_next_any_at wr w.heap.size s pos ty hit hp
      have hd := decode_pos s pos
      have hd4 := decode_four s pos
      have hex := HE.out
      rw [runesF_next hp (by omega)] at hex
      have hmu : wr.iterPos w.heap.size = pos := by simp [World.iterPos, hit]
      have hR1 := HR.out.iter (pos + (Utf8.decode s pos).2)
      generalize wr.iterAt w.heap.size s (pos + (Utf8.decode s pos).2) = W1 at hnx hR1
      generalize ((Utf8.decode s pos).1 : Int) = c at hnx hex
      generalize (Utf8.decode s pos).2 = d at *
      have hBs := hR1.lt
      have hes := enc_size c
      rw [fitL_cons] at hex
      by_cases hbig : (encB c).length + acc.length > n
      · have hbigI : ((encB c).length : Int) > (n : Int) - (acc.length : Int) := by omega
        rw [if_pos hbig] at hex
        have hfs : fitS n (runesS s) = ⟨acc.toArray⟩ := by unfold fitS; rw [← hex]
        have hcv := hR1.newB.conv (P := Tryd.prog) Tryd.underlying67 Tryd.underlying5 Tryd.underlying9
        have Hex := hid hex
        have HR1 := hid hR1
        have Hfs := hid hfs
        clear hex hR1 hfs
        clear HE HR hbig
        go_wp2_with fail
        exact hR'.out _ _ ⟨by rw [Hfs.out]; rfl, HR1.out.keeps⟩
      · have hbigI : ¬ ((encB c).length : Int) > (n : Int) - (acc.length : Int) := by omega
        rw [if_neg hbig] at hex
        have hN1 := hR1.newB
        have he4 := encB_four c
        have Hex := hid hex
        have HR1 := hid hR1
        have HN1 := hid hN1
        clear hex hR1 hN1
        clear HE HR
        obtain ⟨i0, hi, hz0, hz1, hz2⟩ := info_partsF Tryd.infoU8
        go_wp2_with (at_builtin; refine Lib.wpList_append_own_string _ rfl _ _ 67 9 rfl (w.heap.size + 1) 5 i0 Tryd.underlying67 Tryd.underlying9 hi hz0 hz1 hz2 (.slice A acc.length cp) acc.length (acc.map u8v) rfl (by have := HR1.out.own; rw [u8i_map, u8i_len] at this; exact this) (Utf8.encode c) rfl ?_ ?_ ?_ ?_)
        all_goals (try (first | (unfold maxLen; omega) | omega))
        intro v' w6 hown hgr _
        have hl2 : acc.length + (encB c).length = (u8i (acc ++ encB c)).length := by rw [u8i_len, List.length_append]
        have hl3 : acc.map u8v ++ Lib.strCells (Utf8.encode c) = (u8i (acc ++ encB c)).map (Value.int .u8) := by rw [u8i_map, List.map_append]; rfl
        rw [hl2, hl3] at hown
        have hN := HR1.out.push (acc' := u8i (acc ++ encB c)) (Keeps.refl _ _) hown hgr
        obtain ⟨A', cp', rfl⟩ := ownB_form hown
        rw [u8i_len] at hN
        have hle : (acc ++ encB c).length ≤ n := by rw [List.length_append]; omega
        have hit2 := hN.it
        have HN := hid hN
        clear hN
        clear hown hgr hi hz0 hz1 hz2 hl2 hl3
        go_wp2_with fail
        go_roundw
        case rel => exact ⟨pos + d, acc ++ encB c, A', cp', by rw [u8i_len], hle, by omega, hit2, HN, Hex⟩
        case measure => simp [World.iterPos, hit2, hit]; omega
    · have hnx : ∀ ty, (Instr.next (.pointer (some ⟨w.heap.size, 0, none⟩)) true ty).run Tryd.prog wr = _ := fun ty => Lib.run_next_end_at wr w.heap.size s pos ty hit hp
      have hex := HE.out
      rw [runesF_end hp] at hex
      have hfs : fitS n (runesS s) = ⟨acc.toArray⟩ := by unfold fitS; rw [← hex]; rfl
      have hcv := HR.out.newB.conv (P := Tryd.prog) Tryd.underlying67 Tryd.underlying5 Tryd.underlying9
      have Hex := hid hex
      have Hfs := hid hfs
      clear hex hfs
      clear HE
      go_wp2_with fail
      exact hR'.out _ _ ⟨by rw [Hfs.out]; rfl, HR.out.keeps⟩
end Go.Proofs.YtbepgbkbpkaodaaDoor

/- Layer 6 (token): contract of Stop. -/
namespace Go.Proofs.YtbepgbkbpkaodaaDoor
open Go.RowKit

def stopsP : List (List UInt8) := [[97], [97, 110], [97, 110, 100], [97, 114, 101], [97, 115], [97, 116], [98, 101], [98, 121], [102, 111, 114], [105, 110], [105, 115], [105, 116], [111, 102], [111, 110], [111, 114], [116, 104, 101], [116, 111]]
def stopP (s : ByteArray) : Bool := stopsP.any fun t => s.toList == t

set_option maxRecDepth 100000 in
set_option maxHeartbeats 2000000 in
theorem token_stop (s : ByteArray) (w : World) : Calls Tryd.prog 66 #[.string s] w fun e w' => e = .returned (.bool (stopP s)) ∧ w = w' := by
  have hq : stopP s = stopsP.any fun t => s.toList == t := rfl
  unfold stopsP at hq
  simp only [List.any_cons, List.any_nil] at hq
  have HQ := hid hq
  clear hq
  refine calls_hide fun R' hR' => ?_
  go_enter Tryd.func66, Tryd.ntmps66
  go_wp2_with fail
  all_goals refine hR'.out _ _ ⟨?_, rfl⟩
  all_goals (have hq := HQ.out; clear HQ hR'; first | (exfalso; clear hq; simp_all; done) | (rw [hq]; show Ending.returned (.bool _) = Ending.returned (.bool _); congr 2; simp only [*, Bool.true_or, Bool.or_true, Bool.or_false]))
end Go.Proofs.YtbepgbkbpkaodaaDoor
