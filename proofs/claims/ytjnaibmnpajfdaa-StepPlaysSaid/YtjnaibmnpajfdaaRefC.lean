/- StepPlays: (Prog).Step, the plain part. -/
import Derived.Test.YtjnaibmnpajfdaaRefB
import Derived.Test.YtjnaibmnpajfdaaMemB
namespace Go.Proofs.Ytjnaibmnpajfdaa
open Go.RowKit

theorem quiet_skipped : ∀ (l : List InsM) (last : Int), quietL (l.drop (skipN l last)) last ≠ 1
  | [], last => by show (2 : Int) ≠ 1; decide
  | x :: xs, last => by
    have ih := quiet_skipped xs last
    by_cases h1 : x.op = 4 ∧ last % 2 = 1
    · have e : skipN (x :: xs) last = 0 := by rw [skipN_cons, if_pos h1]
      rw [e, List.drop_zero, quietL_cons, if_pos h1]; decide
    · by_cases h2 : x.op < 0 ∨ 3 < x.op
      · have e : skipN (x :: xs) last = skipN xs last + 1 := by rw [skipN_cons, if_neg h1, if_pos h2, Nat.add_comm]
        rw [e, List.drop_succ_cons]; exact ih
      · have e : skipN (x :: xs) last = 0 := by rw [skipN_cons, if_neg h1, if_neg h2]
        rw [e, List.drop_zero, quietL_cons, if_neg h1, if_neg h2]; decide

theorem quiet_zero {l : List InsM} {last : Int} (h1 : quietL l last ≠ 1) (h2 : quietL l last ≠ 2) : ∃ x xs, l = x :: xs ∧ 0 ≤ x.op ∧ x.op ≤ 3 := by
  cases l with
  | nil => exact absurd rfl h2
  | cons x xs =>
    rw [quietL_cons] at h1 h2
    by_cases a : x.op = 4 ∧ last % 2 = 1
    · rw [if_pos a] at h2; exact absurd rfl h2
    · rw [if_neg a] at h1 h2
      by_cases b : x.op < 0 ∨ 3 < x.op
      · rw [if_pos b] at h1; exact absurd rfl h1
      · exact ⟨x, xs, rfl, by omega, by omega⟩

theorem ProgM.on_live {p : ProgM} (h : p.on.over = false) : ∃ x, p.l[p.on.at_]? = some x ∧ 0 ≤ x.op ∧ x.op ≤ 3 := by
  have hq : quietL (p.l.drop p.on.at_) p.last ≠ 2 := by
    intro e
    have : p.on.over = true := by
      show (p.over || decide (quietL (p.l.drop p.on.at_) p.last = 2)) = true
      rw [e]; simp
    rw [this] at h; cases h
  have hq1 : quietL (p.l.drop p.on.at_) p.last ≠ 1 := by
    have := quiet_skipped (p.l.drop p.at_) p.last
    rw [List.drop_drop] at this
    exact this
  obtain ⟨x, xs, e, h0, h3⟩ := quiet_zero hq1 hq
  refine ⟨x, ?_, h0, h3⟩
  have := congrArg (fun l => l[0]?) e
  simpa using this

theorem ProgM.on_le {p : ProgM} (h : p.at_ ≤ p.l.length) : p.on.at_ ≤ p.l.length := by
  have := skip_le (p.l.drop p.at_) p.last
  rw [List.length_drop] at this
  show p.at_ + _ ≤ _
  omega

def ProgM.step (p : ProgM) (cells : List Int) : ProgM × List Int :=
  if p.over = true then (p, cells) else
  if p.on.over = true then (p.on, cells) else
  match p.l[p.on.at_]? with
  | none => (p.on, cells)
  | some x =>
    if addrM x p.last < 0 ∨ (cells.length : Int) ≤ addrM x p.last then ({ p.on with over := true, err := 2 }, cells)
    else if x.op = 0 ∨ x.op = 2 then (ProgM.on { p.on with at_ := p.on.at_ + 1, made := p.on.made + 1, last := cells.getD (addrM x p.last).toNat 0 }, cells)
    else (ProgM.on { p.on with at_ := p.on.at_ + 1, made := p.on.made + 1 }, cells.set (addrM x p.last).toNat (if x.op = 3 then (p.last + x.v) % 4294967296 else x.v))

theorem ProgM.step_over {p : ProgM} {cells : List Int} (h : p.over = true) : p.step cells = (p, cells) := if_pos h
theorem ProgM.step_end {p : ProgM} {cells : List Int} (h : p.over = false) (h1 : p.on.over = true) : p.step cells = (p.on, cells) := by
  unfold ProgM.step; rw [if_neg (by rw [h]; decide), if_pos h1]
theorem ProgM.step_out {p : ProgM} {cells : List Int} {x : InsM} (h : p.over = false) (h1 : p.on.over = false) (hx : p.l[p.on.at_]? = some x)
    (ha : addrM x p.last < 0 ∨ (cells.length : Int) ≤ addrM x p.last) : p.step cells = ({ p.on with over := true, err := 2 }, cells) := by
  unfold ProgM.step; rw [if_neg (by rw [h]; decide), if_neg (by rw [h1]; decide), hx]; simp only; rw [if_pos ha]
theorem ProgM.step_load {p : ProgM} {cells : List Int} {x : InsM} (h : p.over = false) (h1 : p.on.over = false) (hx : p.l[p.on.at_]? = some x)
    (ha : ¬ (addrM x p.last < 0 ∨ (cells.length : Int) ≤ addrM x p.last)) (ho : x.op = 0 ∨ x.op = 2) :
    p.step cells = (ProgM.on { p.on with at_ := p.on.at_ + 1, made := p.on.made + 1, last := cells.getD (addrM x p.last).toNat 0 }, cells) := by
  unfold ProgM.step; rw [if_neg (by rw [h]; decide), if_neg (by rw [h1]; decide), hx]; simp only; rw [if_neg ha, if_pos ho]
theorem ProgM.step_store {p : ProgM} {cells : List Int} {x : InsM} (h : p.over = false) (h1 : p.on.over = false) (hx : p.l[p.on.at_]? = some x)
    (ha : ¬ (addrM x p.last < 0 ∨ (cells.length : Int) ≤ addrM x p.last)) (ho : ¬ (x.op = 0 ∨ x.op = 2)) :
    p.step cells = (ProgM.on { p.on with at_ := p.on.at_ + 1, made := p.on.made + 1 }, cells.set (addrM x p.last).toNat (if x.op = 3 then (p.last + x.v) % 4294967296 else x.v)) := by
  unfold ProgM.step; rw [if_neg (by rw [h]; decide), if_neg (by rw [h1]; decide), hx]; simp only; rw [if_neg ha, if_neg ho]
end Go.Proofs.Ytjnaibmnpajfdaa
