/- StepPlays: the reference's program: quiet, on. -/
import Derived.Test.YtjnaibmnpajfdaaInsB
import Derived.Test.YtjnaibmnpajfdaaInit
namespace Go.Proofs.Ytjnaibmnpajfdaa
open Go.RowKit

structure ProgM where
  l : List InsM
  at_ : Nat
  last : Int
  over : Bool
  err : Int
  made : Nat
def ProgM.vals (p : ProgM) (sl : Value) : List Value := [sl, .int .i64 p.at_, .int .u32 p.last, .bool p.over, .int .i64 p.err, .int .i64 p.made]

def quietL : List InsM → Int → Int
  | [], _ => 2
  | x :: _, last => if x.op = 4 ∧ last % 2 = 1 then 2 else if x.op < 0 ∨ 3 < x.op then 1 else 0
def skipN : List InsM → Int → Nat
  | [], _ => 0
  | x :: xs, last => if x.op = 4 ∧ last % 2 = 1 then 0 else if x.op < 0 ∨ 3 < x.op then 1 + skipN xs last else 0
def ProgM.quiet (p : ProgM) : Int := quietL (p.l.drop p.at_) p.last
def ProgM.on (p : ProgM) : ProgM :=
  { p with at_ := p.at_ + skipN (p.l.drop p.at_) p.last, over := p.over || decide (quietL (p.l.drop (p.at_ + skipN (p.l.drop p.at_) p.last)) p.last = 2) }

theorem quietL_cons (x : InsM) (xs : List InsM) (last : Int) : quietL (x :: xs) last = if x.op = 4 ∧ last % 2 = 1 then 2 else if x.op < 0 ∨ 3 < x.op then 1 else 0 := rfl
theorem skipN_cons (x : InsM) (xs : List InsM) (last : Int) : skipN (x :: xs) last = if x.op = 4 ∧ last % 2 = 1 then 0 else if x.op < 0 ∨ 3 < x.op then 1 + skipN xs last else 0 := rfl
theorem quiet_one {l : List InsM} {last : Int} (h : quietL l last = 1) : ∃ x xs, l = x :: xs ∧ skipN l last = 1 + skipN xs last := by
  cases l with
  | nil => cases h
  | cons x xs =>
    refine ⟨x, xs, rfl, ?_⟩
    rw [quietL_cons] at h
    rw [skipN_cons]
    by_cases h1 : x.op = 4 ∧ last % 2 = 1
    · rw [if_pos h1] at h; exact absurd h (by decide)
    · rw [if_neg h1] at h ⊢
      by_cases h2 : x.op < 0 ∨ 3 < x.op
      · rw [if_pos h2]
      · rw [if_neg h2] at h; exact absurd h (by decide)
theorem quiet_not_one {l : List InsM} {last : Int} (h : quietL l last ≠ 1) : skipN l last = 0 := by
  cases l with
  | nil => rfl
  | cons x xs =>
    rw [quietL_cons] at h
    rw [skipN_cons]
    by_cases h1 : x.op = 4 ∧ last % 2 = 1
    · rw [if_pos h1]
    · rw [if_neg h1] at h ⊢
      by_cases h2 : x.op < 0 ∨ 3 < x.op
      · rw [if_pos h2] at h; exact absurd rfl h
      · rw [if_neg h2]
theorem skip_le : ∀ (l : List InsM) (last : Int), skipN l last ≤ l.length
  | [], last => Nat.le_refl _
  | x :: xs, last => by
    have := skip_le xs last
    rw [skipN_cons]
    split
    · omega
    · split
      · simp; omega
      · omega

set_option maxRecDepth 100000 in
set_option maxHeartbeats 1000000 in
theorem quiet_call {w : World} {K : Nat → Prop} (p : ProgM) (A : Option Addr) (cap : Nat) (hsl : SlAt w K 3 (.slice A p.l.length cap) p.l.length (p.l.flatMap InsM.cells)) (hK : ∀ b, K b → b < w.heap.size) (hat : p.at_ ≤ p.l.length) (hlast : U32 p.last) :
    Calls Try.prog 79 #[.agg #[.slice A p.l.length cap, .int .i64 p.at_, .int .u32 p.last, .bool p.over, .int .i64 p.err, .int .i64 p.made]] w fun e w' =>
      e = .returned (.int .i64 p.quiet) ∧ Keeps (· < w.heap.size) w w' := by
  obtain ⟨l, at_, last, over, err, made⟩ := p
  simp only at hsl hat hlast
  obtain ⟨A', cap', he, h1, h2, hcells⟩ := prog_cells hsl
  injection he with e1 _ e3
  subst e1 e3
  unfold maxLen at h2
  obtain ⟨l0, l1⟩ := hlast
  have HX := hid hcells
  have HK := hid hK
  clear hsl hcells hK
  have hk1 : Keeps (· < w.heap.size) w (w.alloc (.cells #[.slice A l.length cap, .int .i64 at_, .int .u32 last, .bool over, .int .i64 err, .int .i64 made] 49)) := (Keeps.refl _ _).alloc (fun b hb => hb) _
  have HK1 := hid hk1
  clear hk1
  refine calls_hide fun R' hR' => ?_
  by_cases hlt : at_ < l.length
  · obtain ⟨b, off, rfl, hKb, x0, x1, x2⟩ := HX.out at_ l[at_] (List.getElem?_eq_getElem hlt)
    have hdrop : l.drop at_ = l[at_] :: l.drop (at_ + 1) := List.drop_eq_getElem_cons hlt
    generalize l[at_] = x at *
    obtain ⟨op, a, vv⟩ := x
    simp only at x0 x1 x2
    have hb := HK.out b hKb
    have hq : (ProgM.quiet ⟨l, at_, last, over, err, made⟩) = (if op = 4 ∧ last % 2 = 1 then 2 else if op < 0 ∨ 3 < op then 1 else 0) := by
      show quietL (l.drop at_) last = _; rw [hdrop]; rfl
    have HQ := hid hq
    clear hq hdrop
    by_cases h4 : op = 4
    · subst h4
      by_cases hodd : last % 2 = 1
      · have hb' : (last % 2 == 1) = true := by simpa using hodd
        have HQ2 := hid (HQ.out.trans (if_pos ⟨rfl, hodd⟩))
        clear hodd
        go_enter Try.func79, Try.ntmps79
        go_wp2
        exact hR'.out _ _ ⟨by rw [HQ2.out], HK1.out.alloc (fun b hb => by simp; omega) _⟩
      · have hb' : (last % 2 == 1) = false := by simpa using hodd
        have HQ2 := hid (HQ.out.trans ((if_neg (fun h => hodd h.2)).trans (if_pos (Or.inr (by decide)))))
        clear hodd
        go_enter Try.func79, Try.ntmps79
        go_wp2
        exact hR'.out _ _ ⟨by rw [HQ2.out], HK1.out.alloc (fun b hb => by simp; omega) _⟩
    · have hb' : (op == 4) = false := by simpa using h4
      by_cases hlo : op < 0
      · have HQ2 := hid (HQ.out.trans ((if_neg (fun h => h4 h.1)).trans (if_pos (Or.inl hlo))))
        clear h4
        go_enter Try.func79, Try.ntmps79
        go_wp2
        exact hR'.out _ _ ⟨by rw [HQ2.out], HK1.out.alloc (fun b hb => by simp; omega) _⟩
      · by_cases hhi : 3 < op
        · have HQ2 := hid (HQ.out.trans ((if_neg (fun h => h4 h.1)).trans (if_pos (Or.inr hhi))))
          clear h4
          go_enter Try.func79, Try.ntmps79
          go_wp2
          exact hR'.out _ _ ⟨by rw [HQ2.out], HK1.out.alloc (fun b hb => by simp; omega) _⟩
        · have HQ2 := hid (HQ.out.trans ((if_neg (fun h => h4 h.1)).trans (if_neg (by omega))))
          clear h4
          go_enter Try.func79, Try.ntmps79
          go_wp2
          exact hR'.out _ _ ⟨by rw [HQ2.out], HK1.out.alloc (fun b hb => by simp; omega) _⟩
  · have hq : (ProgM.quiet ⟨l, at_, last, over, err, made⟩) = 2 := by
      show quietL (l.drop at_) last = _; rw [List.drop_of_length_le (by omega)]; rfl
    have HQ := hid hq
    clear hq
    go_enter Try.func79, Try.ntmps79
    go_wp2
    exact hR'.out _ _ ⟨by rw [HQ.out], HK1.out⟩
end Go.Proofs.Ytjnaibmnpajfdaa
