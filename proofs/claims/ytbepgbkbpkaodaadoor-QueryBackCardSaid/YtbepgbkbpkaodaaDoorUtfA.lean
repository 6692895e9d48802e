/- Layer 4 (utf): contract of Runes. -/
import Derived.Test.YtbepgbkbpkaodaaDoorJOwn
import Derived.Test.YtbepgbkbpkaodaaDoorChecked
import Derived.Lib.OthersKept
import Derived.Laws.RangeAny
import Derived.WalkKit
namespace Go.Proofs.YtbepgbkbpkaodaaDoor
open Go.RowKit

/-- a text's runes, from a place on -/
def runesF (s : ByteArray) : Nat → Nat → List Int
  | 0, _ => []
  | f + 1, p => if p < s.size then ((Utf8.decode s p).1 : Int) :: runesF s f (p + (Utf8.decode s p).2) else []
def runesS (s : ByteArray) : List Int := runesF s s.size 0
theorem decode_pos (s : ByteArray) (p : Nat) : 0 < (Utf8.decode s p).2 := by
  simp only [Utf8.decode]
  repeat' split
  all_goals simp
theorem runesF_succ (s : ByteArray) (f p : Nat) : runesF s (f + 1) p = if p < s.size then ((Utf8.decode s p).1 : Int) :: runesF s f (p + (Utf8.decode s p).2) else [] := rfl
theorem runesF_more (s : ByteArray) : ∀ (f p : Nat), s.size ≤ p + f → runesF s (f + 1) p = runesF s f p
  | 0, p, h => by
    rw [runesF_succ, if_neg (by omega)]; rfl
  | f + 1, p, h => by
    have hd := decode_pos s p
    rw [runesF_succ s (f + 1) p, runesF_succ s f p]
    by_cases hp : p < s.size
    · rw [if_pos hp, if_pos hp, runesF_more s f _ (by omega)]
    · rw [if_neg hp, if_neg hp]
theorem runesF_any (s : ByteArray) (f p : Nat) (h : s.size ≤ p + f) : ∀ g, runesF s (f + g) p = runesF s f p
  | 0 => rfl
  | g + 1 => by rw [← Nat.add_assoc, runesF_more s (f + g) p (by omega), runesF_any s f p h g]
theorem runesF_next {s : ByteArray} {f p : Nat} (hp : p < s.size) (h : s.size ≤ p + f) : runesF s f p = ((Utf8.decode s p).1 : Int) :: runesF s f (p + (Utf8.decode s p).2) := by
  obtain ⟨f, rfl⟩ : ∃ f', f = f' + 1 := ⟨f - 1, by omega⟩
  have hd := decode_pos s p
  rw [runesF_succ, if_pos hp, runesF_any s f _ (by omega) 1]
theorem runesF_end {s : ByteArray} {f p : Nat} (hp : ¬ p < s.size) : runesF s f p = [] := by
  cases f with
  | zero => rfl
  | succ f => rw [runesF_succ, if_neg hp]
theorem decode_four (s : ByteArray) (p : Nat) : (Utf8.decode s p).2 ≤ 4 := by
  simp only [Utf8.decode]
  repeat' split
  all_goals simp
theorem runesF_len (s : ByteArray) : ∀ f p, (runesF s f p).length ≤ f
  | 0, _ => Nat.le_refl _
  | f + 1, p => by
    unfold runesF
    split
    · have := runesF_len s f (p + (Utf8.decode s p).2); simp; omega
    · simp

/-- a text that is gone through, and an own row beside it -/
structure ItRow (w wr : World) (s : ByteArray) (pos : Nat) (E : TypeId) (f : Int → Value) (v : Value) (acc : List Int) : Prop where
  it : wr.heap[w.heap.size]? = some (.stringIter s pos)
  own : wr.ownsRow (w.heap.size + 1) E 1 v acc.length (acc.map f)
  keeps : Keeps (· < w.heap.size) w wr
  lt : w.heap.size < wr.heap.size
theorem ItRow.iter {w wr : World} {s : ByteArray} {pos : Nat} {E : TypeId} {f : Int → Value} {v : Value} {acc : List Int} (h : ItRow w wr s pos E f v acc) (pos' : Nat) : ItRow w (wr.iterAt w.heap.size s pos') s pos' E f v acc := by
  have k : Keeps (· ≠ w.heap.size) wr (wr.iterAt w.heap.size s pos') := ⟨rfl, rfl, rfl, by rw [Lib.iterAt_size]; exact Nat.le_refl _, fun b hb => Lib.iterAt_other wr w.heap.size b s pos' hb⟩
  exact ⟨Lib.iterAt_heap wr w.heap.size s pos pos' h.it, ownB_keep h.own k (fun b hB _ _ => by show b ≠ w.heap.size; omega), h.keeps.trans (k.mono fun b hb => by show b ≠ w.heap.size; omega), by rw [Lib.iterAt_size]; exact h.lt⟩
theorem ItRow.push {w wr w2 w' : World} {s : ByteArray} {pos : Nat} {E : TypeId} {f : Int → Value} {v v' : Value} {acc acc' : List Int} (h : ItRow w wr s pos E f v acc) (k : Keeps (· < wr.heap.size) wr w2) (hown : w'.ownsRow (w.heap.size + 1) E 1 v' acc'.length (acc'.map f)) (hg : w2.grownBy w' v.ownBlock) : ItRow w w' s pos E f v' acc' := by
  have ho := ownB_keepS h.own k
  have hs := k.size
  have hlt := h.lt
  refine ⟨?_, hown, keeps_grown (h.keeps.trans (k.mono fun b hb => by omega)) (by omega) (B := w.heap.size) (E := E) (n := acc.length) (sz := 1) (xs := acc.map f) ⟨ho.1, ?_⟩ hg, Nat.lt_of_lt_of_le (Nat.lt_of_lt_of_le hlt hs) hg.size⟩
  · rw [hg.block _ (by omega) (fun e => by have := (ownB_lt ho e.symm).1; omega), k.block _ hlt]
    exact h.it
  · rcases ho.2 with h1 | ⟨g, c, cur, h1, h2, h3⟩
    · exact Or.inl h1
    · exact Or.inr ⟨g, c, cur, h1, by omega, h3⟩
theorem ItRow.new {w wr : World} {s : ByteArray} {pos : Nat} {E : TypeId} {f : Int → Value} {v : Value} {acc : List Int} (h : ItRow w wr s pos E f v acc) : NewRow w wr E f v acc := by
  refine ⟨⟨h.own.1, ?_⟩, h.keeps⟩
  rcases h.own.2 with h1 | ⟨g, c, cur, h1, h2, h3⟩
  · exact Or.inl h1
  · exact Or.inr ⟨g, c, cur, h1, by omega, h3⟩
theorem Tryd.infoI32 : (Tryd.prog.info? 21).map (fun i => (i.zero, i.size, i.bytes)) = some (some (.int .i32 0), 1, 4) := by kernel_rfl

set_option maxRecDepth 100000 in
set_option maxHeartbeats 1000000 in
theorem utf_runes (s : ByteArray) (hs : s.size ≤ 17592186044416) (w : World) : Calls Tryd.prog 23 #[.string s] w fun e w' => ∃ v, e = .returned v ∧ NewRow w w' 21 (Value.int .i32) v (runesS s) := by
  have h0 : ItRow w (w.iter s 0) s 0 21 (Value.int .i32) (.slice none 0 0) [] := ⟨World.iter_heap w s 0, ⟨rfl, Or.inl ⟨rfl, rfl⟩⟩, (Keeps.refl _ _).alloc (fun b hb => hb) _, by simp [World.iter]⟩
  have H0 := hid h0
  clear h0
  refine calls_hide fun R' hR' => ?_
  go_enter Tryd.func23, Tryd.ntmps23
  go_wp2_with fail
  go_loopw [3] (fun ov wr => ∃ (pos : Nat) (acc : List Int) (A : Option Addr) (cp : Nat), ov = .slice A acc.length cp ∧ acc.length ≤ pos ∧ pos ≤ s.size + 4 ∧ wr.heap[w.heap.size]? = some (.stringIter s pos) ∧ Hid (ItRow w wr s pos 21 (Value.int .i32) (.slice A acc.length cp) acc) ∧ Hid (acc ++ runesF s s.size pos = runesS s)) (fun _ wr => s.size + 4 - wr.iterPos w.heap.size)
  case atStart => exact ⟨0, [], none, 0, rfl, Nat.le_refl _, Nat.zero_le _, H0.out.it, H0, hid rfl⟩
  case round =>
    obtain ⟨pos, acc, A, cp, rfl, hap, hps, hit, HR, HE⟩ := hrel
    by_cases hp : pos < s.size
    · have hnx : ∀ ty, (Instr.next (.pointer (some ⟨w.heap.size, 0, none⟩)) true ty).run Tryd.prog wr = _ := fun ty => Lib.run_next_any_at wr w.heap.size s pos ty hit hp
      have hd := decode_pos s pos
      have hd4 := decode_four s pos
      have hex := HE.out
      rw [runesF_next hp (by omega)] at hex
      have hmu : wr.iterPos w.heap.size = pos := by simp [World.iterPos, hit]
      have hR1 := HR.out.iter (pos + (Utf8.decode s pos).2)
      generalize wr.iterAt w.heap.size s (pos + (Utf8.decode s pos).2) = W1 at hnx hR1
      generalize ((Utf8.decode s pos).1 : Int) = c at hnx hex
      generalize (Utf8.decode s pos).2 = d at *
      have hBs := hR1.lt
      have Hex := hid hex
      have HR1 := hid hR1
      clear hex hR1
      clear HE HR
      obtain ⟨i0, hi, hz0, hz1, hz2⟩ := info_partsF Tryd.infoI32
      go_wp2_with (at_builtin; go_must (refine wpList_append_own_at _ rfl _ _ 34 rfl ((w.heap.size + 1)) 21 i0 (.int .i32 0) 1 4 Tryd.underlying34 hi hz0 hz1 hz2 rfl (by decide) (.slice A acc.length cp) acc.length (acc.map (Value.int .i32)) rfl (ownB_keepS HR1.out.own ((Keeps.refl _ _).alloc (fun b hb => hb) _)) ⟨W1.heap.size, 0, none⟩ 1 1 [.int .i32 c] rfl (by simp) (own_news (own_lit W1 0 _ _ 1 1 [.int .i32 c] rfl rfl (by decide) (Nat.zero_le _))) ?_ ?_ ?_ ?_ ?_))
      all_goals (try (first | with_reducible exact one1 _ _ | with_reducible exact one2 _ _ _ | with_reducible exact one4 _ _ _ _ _ | with_reducible exact oneM _ _ | exact rfl | exact fun _ _ => rfl | exact ⟨rfl, rfl⟩ | exact ⟨rfl, rfl, rfl⟩ | exact ⟨rfl, rfl, rfl, rfl⟩ | (unfold maxLen; omega) | omega | (simp; omega) | (simp; done)))
      (try clear hi)
      (try clear hz0)
      (try clear hz1)
      (try clear hz2)
      intro v' w6 hown hgr _ hf
      have hl1 : acc.length + 1 = (acc ++ [c]).length := by simp
      have hl2 : acc.map (Value.int .i32) ++ [.int .i32 c] = (acc ++ [c]).map (Value.int .i32) := by simp
      rw [hl1, hl2] at hown
      have hN := HR1.out.push (acc' := acc ++ [c]) ((Keeps.refl _ _).alloc (fun b hb => hb) _) hown hgr
      obtain ⟨A', cp', rfl⟩ := ownB_form hown
      have hlen : (acc ++ [c]).length ≤ pos + d := by simp; omega
      have hex2 : (acc ++ [c]) ++ runesF s s.size (pos + d) = runesS s := by rw [← Hex.out]; simp
      generalize acc ++ [c] = acc2 at hN hlen hl1 hl2 hex2 ⊢
      have hit2 := hN.it
      clear hown hgr hf hl1 hl2
      have HN := hid hN
      have Hex2 := hid hex2
      clear hN hex2
      go_wp2_with fail
      go_roundw
      case rel => exact ⟨pos + d, acc2, A', cp', rfl, hlen, by omega, hit2, HN, Hex2⟩
      case measure => simp [World.iterPos, hit2, hit]; omega
    · have hnx : ∀ ty, (Instr.next (.pointer (some ⟨w.heap.size, 0, none⟩)) true ty).run Tryd.prog wr = _ := fun ty => Lib.run_next_end_at wr w.heap.size s pos ty hit hp
      have hex := HE.out
      rw [runesF_end hp, List.append_nil] at hex
      have Hex := hid hex
      clear hex
      go_wp2_with fail
      exact hR'.out _ _ ⟨_, rfl, by have := HR.out.new; rw [Hex.out] at this; rw [Hex.out]; exact this⟩
end Go.Proofs.YtbepgbkbpkaodaaDoor
