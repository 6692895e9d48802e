/- StepPlays, the plain part: a run of the list's program and the reference's program go on alike. -/
import Derived.Test.YtjnaibmnpajfdaaRefC
import Derived.Test.YtjnaibmnpajfdaaPlainC
namespace Go.Proofs.Ytjnaibmnpajfdaa
open Go.RowKit

/-- the program, gone on to its next access -/
theorem progT_norm : ∀ (l : List InsM) (i : Nat) (last : Int), i + l.length ≤ 100 →
    (quietL (l.drop (skipN l last)) last = 2 ∧ (progT l i last).norm = .ret ()) ∨
    (∃ x xs, l.drop (skipN l last) = x :: xs ∧ 0 ≤ x.op ∧ x.op ≤ 3 ∧ (progT l i last).norm =
      (if x.op = 0 ∨ x.op = 2 then Tree.load (addrM x last) fun v => progT xs (i + skipN l last + 1) v
      else if x.op = 1 then .store x.a x.v (progT xs (i + skipN l last + 1) last)
      else .store x.a ((last + x.v) % 4294967296) (progT xs (i + skipN l last + 1) last)))
  | [], i, last, _ => Or.inl ⟨rfl, rfl⟩
  | x :: xs, i, last, hi => by
    have hi' : i + 1 + xs.length ≤ 100 := by simp at hi; omega
    have hn : (progT (x :: xs) i last).norm = (if false = true ∨ 100 < i ∨ (x.op = 4 ∧ last % 2 = 1) then Tree.ret ()
      else if x.op = 0 ∨ x.op = 2 then .load (addrM x last) fun v => progT xs (i + 1) v
      else if x.op = 1 then .store x.a x.v (progT xs (i + 1) last)
      else if x.op = 3 then .store x.a ((last + x.v) % 4294967296) (progT xs (i + 1) last)
      else progT xs (i + 1) last).norm := rfl
    by_cases h4 : x.op = 4 ∧ last % 2 = 1
    · refine Or.inl ⟨?_, ?_⟩
      · rw [skipN_cons, if_pos h4, List.drop_zero, quietL_cons, if_pos h4]
      · rw [hn, if_pos (Or.inr (Or.inr h4))]; rfl
    · have hno : ¬ (false = true ∨ 100 < i ∨ (x.op = 4 ∧ last % 2 = 1)) := by
        rintro (h | h | h)
        · cases h
        · omega
        · exact h4 h
      rw [hn, if_neg hno]
      by_cases hq : x.op < 0 ∨ 3 < x.op
      · have hs : skipN (x :: xs) last = skipN xs last + 1 := by rw [skipN_cons, if_neg h4, if_pos hq, Nat.add_comm]
        rw [if_neg (by omega), if_neg (by omega), if_neg (by omega), hs, List.drop_succ_cons]
        have ih := progT_norm xs (i + 1) last hi'
        rw [show i + 1 + skipN xs last + 1 = i + (skipN xs last + 1) + 1 by omega] at ih
        exact ih
      · have hs : skipN (x :: xs) last = 0 := by rw [skipN_cons, if_neg h4, if_neg hq]
        rw [hs, List.drop_zero]
        refine Or.inr ⟨x, xs, rfl, by omega, by omega, ?_⟩
        by_cases h0 : x.op = 0 ∨ x.op = 2
        · rw [if_pos h0, if_pos h0]; rfl
        · rw [if_neg h0, if_neg h0]
          by_cases h1 : x.op = 1
          · rw [if_pos h1, if_pos h1]; rfl
          · rw [if_neg h1, if_neg h1, if_pos (by omega)]; rfl

/-- a run and the reference's program are as far -/
structure Alike (l : List InsM) (s : St) (p : ProgM) : Prop where
  list : p.l = l
  le : p.at_ ≤ l.length
  made : p.made = s.r.log.length
  made_le : p.made ≤ p.at_
  over : p.over = s.r.over
  err : p.err = s.r.err
  last : U32 p.last
  way : s.r.over = false → Way (progT l 0 0) s (progT (l.drop p.at_) p.at_ p.last).norm

theorem Alike.start {l : List InsM} (μ : MemS) (p : Nat) (b1 b2 b3 : Bool) : Alike l ⟨⟨[], p, b1, b2, b3, false, 0⟩, μ⟩ ⟨l, 0, 0, false, 0, 0⟩ :=
  ⟨rfl, Nat.zero_le _, rfl, Nat.le_refl _, rfl, rfl, (show U32 0 from ⟨by decide, by decide⟩), fun _ => by
    have := way_start (progT l 0 0) μ b1 b2 b3 p
    simpa using this⟩

theorem U32_at {μ : MemS} (hr : ∀ x ∈ μ.cells, U32 x) {n : Nat} (hn : n < μ.cells.length) : U32 (μ.cells.getD n 0) := by
  rw [List.getD_eq_getElem?_getD, List.getElem?_eq_getElem hn]
  exact hr _ (List.getElem_mem hn)

theorem norm_skip : ∀ (l : List InsM) (i : Nat) (last : Int), i + l.length ≤ 100 → (progT l i last).norm = (progT (l.drop (skipN l last)) (i + skipN l last) last).norm
  | [], i, last, _ => rfl
  | x :: xs, i, last, hi => by
    have hi' : i + 1 + xs.length ≤ 100 := by simp at hi; omega
    by_cases h4 : x.op = 4 ∧ last % 2 = 1
    · rw [show skipN (x :: xs) last = 0 by rw [skipN_cons, if_pos h4]]; rfl
    · by_cases hq : x.op < 0 ∨ 3 < x.op
      · have hs : skipN (x :: xs) last = skipN xs last + 1 := by rw [skipN_cons, if_neg h4, if_pos hq, Nat.add_comm]
        have hno : ¬ (false = true ∨ 100 < i ∨ (x.op = 4 ∧ last % 2 = 1)) := by
          rintro (h | h | h)
          · cases h
          · omega
          · exact h4 h
        have hn : (progT (x :: xs) i last).norm = (if false = true ∨ 100 < i ∨ (x.op = 4 ∧ last % 2 = 1) then Tree.ret ()
          else if x.op = 0 ∨ x.op = 2 then .load (addrM x last) fun v => progT xs (i + 1) v
          else if x.op = 1 then .store x.a x.v (progT xs (i + 1) last)
          else if x.op = 3 then .store x.a ((last + x.v) % 4294967296) (progT xs (i + 1) last)
          else progT xs (i + 1) last).norm := rfl
        rw [hn, if_neg hno, if_neg (by omega), if_neg (by omega), if_neg (by omega), hs, List.drop_succ_cons, norm_skip xs (i + 1) last hi', show i + 1 + skipN xs last = i + (skipN xs last + 1) by omega]
      · rw [show skipN (x :: xs) last = 0 by rw [skipN_cons, if_neg h4, if_neg hq]]; rfl

theorem on_ret {l : List InsM} (hl : l.length ≤ 60) {k : Nat} (hk : k ≤ l.length) {last err : Int} {made : Nat} :
    (progT (l.drop k) k last).norm.isRet = (ProgM.on ⟨l, k, last, false, err, made⟩).over ∧
    (progT (l.drop k) k last).norm = (progT (l.drop (ProgM.on ⟨l, k, last, false, err, made⟩).at_) (ProgM.on ⟨l, k, last, false, err, made⟩).at_ last).norm := by
  have hb : k + (l.drop k).length ≤ 100 := by rw [List.length_drop]; omega
  refine ⟨?_, ?_⟩
  · show _ = (false || decide (quietL (l.drop (k + skipN (l.drop k) last)) last = 2))
    rw [← List.drop_drop]
    rcases progT_norm (l.drop k) k last hb with ⟨h1, h2⟩ | ⟨x, xs, h1, h2, h3, h4⟩
    · rw [h1, h2]; rfl
    · have hq : quietL (x :: xs) last = 0 := by rw [quietL_cons, if_neg (by omega), if_neg (by omega)]
      rw [h1, hq, h4]
      split
      · rfl
      · split <;> rfl
  · have := norm_skip (l.drop k) k last hb
    rw [List.drop_drop] at this
    exact this

theorem alike_over {l : List InsM} {s : St} {p : ProgM} (h : Alike l s p) (ho : s.r.over = true) : s.stepP (progT l 0 0) = s ∧ p.step s.m.cells = (p, s.m.cells) :=
  ⟨stepP_over ho _, ProgM.step_over (h.over.trans ho)⟩

theorem alike_step {l : List InsM} {s : St} {p : ProgM} (h : Alike l s p) (hl : l.length ≤ 60) (hr : ∀ x ∈ s.m.cells, U32 x) (ho : s.r.over = false) :
    Alike l (s.stepP (progT l 0 0)) (p.step s.m.cells).1 ∧ (s.stepP (progT l 0 0)).m.cells = (p.step s.m.cells).2 := by
  rw [stepP_run ho]
  have hw := h.way ho
  obtain ⟨pl, at_, last, over, err, made⟩ := p
  obtain ⟨e1, hle, hmade, hml, hov, herr, hlast, _⟩ := h
  simp only at e1 hle hmade hml hov herr hlast hw
  subst e1
  rw [ho] at hov
  subst hov
  have hz : err = 0 := herr.trans hw.err
  subst hz
  have hb : at_ + (pl.drop at_).length ≤ 100 := by rw [List.length_drop]; omega
  have honle := ProgM.on_le (p := ⟨pl, at_, last, false, 0, made⟩) hle
  have honat : (ProgM.on ⟨pl, at_, last, false, 0, made⟩).at_ = at_ + skipN (pl.drop at_) last := rfl
  rcases progT_norm (pl.drop at_) at_ last hb with ⟨h1, h2⟩ | ⟨x, xs, h1, h2, h3, h4⟩
  · have hon : (ProgM.on ⟨pl, at_, last, false, 0, made⟩).over = true := by
      have := (on_ret hl hle (last := last) (err := 0) (made := made)).1
      rw [h2] at this; exact this.symm
    rw [ProgM.step_end rfl hon]
    rw [h2] at hw
    have hs := way_end hw
    rw [hs]
    exact ⟨⟨rfl, honle, hmade, Nat.le_trans hml (Nat.le_add_right _ _), hon, rfl, hlast, fun e => (by cases e)⟩, rfl⟩
  · have hon : (ProgM.on ⟨pl, at_, last, false, 0, made⟩).over = false := by
      have := (on_ret hl hle (last := last) (err := 0) (made := made)).1
      rw [h4] at this
      rw [← this]
      split
      · rfl
      · split <;> rfl
    have hdd : pl.drop (at_ + skipN (pl.drop at_) last) = x :: xs := by rw [← List.drop_drop]; exact h1
    have hx : pl[(ProgM.on ⟨pl, at_, last, false, 0, made⟩).at_]? = some x := by
      rw [honat]
      have := congrArg (fun l => l[0]?) hdd
      simpa using this
    have hxs : xs = pl.drop (at_ + skipN (pl.drop at_) last + 1) := by
      have := congrArg List.tail hdd
      simpa using this.symm
    have hk1 : at_ + skipN (pl.drop at_) last + 1 ≤ pl.length := by
      have := congrArg List.length hdd
      simp at this; omega
    rw [h4] at hw
    generalize hk : at_ + skipN (pl.drop at_) last = k at *
    subst hxs
    by_cases hout : addrM x last < 0 ∨ (s.m.cells.length : Int) ≤ addrM x last
    · have hin : s.m.inb (addrM x last) = false := by
        cases hc : s.m.inb (addrM x last) with
        | false => rfl
        | true => have := (inb_iff _ _).1 hc; omega
      rw [ProgM.step_out rfl hon hx hout]
      have hal : ∀ s' : St, s' = ⟨⟨s.r.log, s.r.log.length, false, false, true, true, 2⟩, s.m⟩ → Alike pl s' { ProgM.on ⟨pl, at_, last, false, 0, made⟩ with over := true, err := 2 } ∧ s'.m.cells = s.m.cells := by
        rintro _ rfl
        exact ⟨⟨rfl, honle, hmade, Nat.le_trans hml (by rw [honat]; omega), rfl, rfl, hlast, fun e => (by cases e)⟩, rfl⟩
      by_cases h02 : x.op = 0 ∨ x.op = 2
      · rw [if_pos h02] at hw
        exact hal _ (way_load_out hw hin)
      · rw [if_neg h02] at hw
        have ha : addrM x last = x.a := by unfold addrM; rw [if_neg (fun e => h02 (Or.inr e))]
        rw [ha] at hin
        by_cases h1' : x.op = 1
        · rw [if_pos h1'] at hw
          exact hal _ (way_store_out hw hin)
        · rw [if_neg h1'] at hw
          exact hal _ (way_store_out hw hin)
    · have hin : s.m.inb (addrM x last) = true := (inb_iff _ _).2 (by omega)
      by_cases h02 : x.op = 0 ∨ x.op = 2
      · rw [if_pos h02] at hw
        rw [ProgM.step_load rfl hon hx hout h02]
        have hv : s.m.at (addrM x last) = s.m.cells.getD (addrM x last).toNat 0 := rfl
        have hu := U32_at hr (n := (addrM x last).toNat) (by omega)
        obtain ⟨w1, _⟩ := way_load hw hin
        have hnx := fun hn => way_next_load hw hin hn
        rw [hv] at w1 hnx
        generalize s.m.cells.getD (addrM x last).toNat 0 = v at *
        have hO := on_ret hl hk1 (last := v) (err := 0) (made := made + 1)
        have hpe : ProgM.on { ProgM.on ⟨pl, at_, last, false, 0, made⟩ with at_ := (ProgM.on ⟨pl, at_, last, false, 0, made⟩).at_ + 1, made := (ProgM.on ⟨pl, at_, last, false, 0, made⟩).made + 1, last := v } = ProgM.on ⟨pl, k + 1, v, false, 0, made + 1⟩ := by
          rw [honat]
          show ProgM.on ⟨pl, k + 1, v, (ProgM.on ⟨pl, at_, last, false, 0, made⟩).over, 0, made + 1⟩ = _
          rw [hon]
        rw [hpe]
        refine ⟨⟨rfl, ?_, ?_, ?_, ?_, ?_, hu, ?_⟩, ?_⟩
        · exact ProgM.on_le (p := ⟨pl, k + 1, v, false, 0, made + 1⟩) hk1
        · rw [w1]; show made + 1 = (s.r.log ++ [v]).length; simp; exact hmade
        · show made + 1 ≤ k + 1 + _; omega
        · rw [w1]; exact hO.1.symm
        · rw [w1]; rfl
        · intro ho'
          have hn : (progT (pl.drop (k + 1)) (k + 1) v).norm.isRet = false := by rw [w1] at ho'; exact ho'
          have := hnx hn
          rw [hO.2] at this
          exact this
        · rw [w1]; simp [MemS.load, hin]
      · rw [if_neg h02] at hw
        have ha : addrM x last = x.a := by unfold addrM; rw [if_neg (fun e => h02 (Or.inr e))]
        rw [ProgM.step_store rfl hon hx hout h02]
        have hO := on_ret hl hk1 (last := last) (err := 0) (made := made + 1)
        have key : ∀ u : Int, Way (progT pl 0 0) s (.store x.a u (progT (pl.drop (k + 1)) (k + 1) last)) → u = (if x.op = 3 then (last + x.v) % 4294967296 else x.v) →
            Alike pl (s.step (progT pl 0 0)).2 (ProgM.on { ProgM.on ⟨pl, at_, last, false, 0, made⟩ with at_ := (ProgM.on ⟨pl, at_, last, false, 0, made⟩).at_ + 1, made := (ProgM.on ⟨pl, at_, last, false, 0, made⟩).made + 1 }) ∧
              (s.step (progT pl 0 0)).2.m.cells = s.m.cells.set (addrM x last).toNat (if x.op = 3 then (last + x.v) % 4294967296 else x.v) := by
          intro u hw' hu
          have hin' : s.m.inb x.a = true := by rw [← ha]; exact hin
          obtain ⟨w1, _⟩ := way_store hw' hin'
          have hnx := fun hn => way_next_store hw' hin' hn
          have hpe : ProgM.on { ProgM.on ⟨pl, at_, last, false, 0, made⟩ with at_ := (ProgM.on ⟨pl, at_, last, false, 0, made⟩).at_ + 1, made := (ProgM.on ⟨pl, at_, last, false, 0, made⟩).made + 1 } = ProgM.on ⟨pl, k + 1, last, false, 0, made + 1⟩ := by
            rw [honat]
            show ProgM.on ⟨pl, k + 1, last, (ProgM.on ⟨pl, at_, last, false, 0, made⟩).over, 0, made + 1⟩ = _
            rw [hon]
          rw [hpe]
          refine ⟨⟨rfl, ?_, ?_, ?_, ?_, ?_, hlast, ?_⟩, ?_⟩
          · exact ProgM.on_le (p := ⟨pl, k + 1, last, false, 0, made + 1⟩) hk1
          · rw [w1]; show made + 1 = (s.r.log ++ [0]).length; simp; exact hmade
          · show made + 1 ≤ k + 1 + _; omega
          · rw [w1]; exact hO.1.symm
          · rw [w1]; rfl
          · intro ho'
            have hn : (progT (pl.drop (k + 1)) (k + 1) last).norm.isRet = false := by rw [w1] at ho'; exact ho'
            have := hnx hn
            rw [hO.2] at this
            exact this
          · rw [w1, ha, ← hu]; simp [MemS.store, hin']
        by_cases h1' : x.op = 1
        · rw [if_pos h1'] at hw
          exact key _ hw (by rw [if_neg (by omega)])
        · rw [if_neg h1'] at hw
          exact key _ hw (by rw [if_pos (by omega)])

theorem alike_any {l : List InsM} {s : St} {p : ProgM} (h : Alike l s p) (hl : l.length ≤ 60) (hr : ∀ x ∈ s.m.cells, U32 x) :
    Alike l (s.stepP (progT l 0 0)) (p.step s.m.cells).1 ∧ (s.stepP (progT l 0 0)).m.cells = (p.step s.m.cells).2 := by
  cases ho : s.r.over with
  | true =>
    obtain ⟨h1, h2⟩ := alike_over h ho
    rw [h1, h2]
    exact ⟨h, rfl⟩
  | false => exact alike_step h hl hr ho
theorem Alike.mem {l : List InsM} {s : St} {p : ProgM} (h : Alike l s p) (μ : MemS) : Alike l ⟨s.r, μ⟩ p :=
  ⟨h.list, h.le, h.made, h.made_le, h.over, h.err, h.last, fun ho => let W := h.way ho; ⟨W.takes, W.rest, W.err, W.over⟩⟩
end Go.Proofs.Ytjnaibmnpajfdaa
