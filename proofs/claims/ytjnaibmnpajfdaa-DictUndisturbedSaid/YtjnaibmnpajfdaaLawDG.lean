/- DictUndisturbed: the program that looks a key up, and one Step of it. -/
import Derived.Test.YtjnaibmnpajfdaaLawDF
namespace Go.Proofs.Ytjnaibmnpajfdaa
open Go.RowKit

theorem enters_du2 : ∀ (args : Array Value) (w : World), (callFunc 44 args).run Try.prog w = .ok (.enter 44 args) w :=
  enters_of Try.func44 (by kernel_rfl) rfl

set_option maxRecDepth 100000 in
set_option maxHeartbeats 1000000 in
theorem du2_call {w : World} {K : Nat → Prop} {r m c : Nat} {s : St} (h : RM w K r m c s) (ps pk pa : Nat) (s0 : Int) (t : ByteArray) (o1 : Int) (hs : 0 ≤ s0 ∧ s0 ≤ 65536) (ht : t.size ≤ 140737488351232)
    (hbs : Blk w ps [.int .i64 s0]) (hbk : Blk w pk [.string t]) (hba : Blk w pa [.int .i64 o1]) (hKa : K pa) :
    Calls Try.prog 44 #[.pointer (some ⟨r, 0, none⟩), .pointer (some ⟨ps, 0, none⟩), .pointer (some ⟨pk, 0, none⟩), .pointer (some ⟨pa, 0, none⟩)] w fun e w' =>
      e = .returned (.tuple #[]) ∧ RM w' K r m c ((findD s0 16 (homeD 16 (bsL t)) (packC (bsL t)) t.size 16 0).exec s).2 ∧ Keeps (fun x => K x ∧ x ≠ pa) w w' ∧
        Blk w' pa [.int .i64 ((findD s0 16 (homeD 16 (bsL t)) (packC (bsL t)) t.size 16 0).exec s).1.1] := by
  have cs0 := (hbs).cell 0
  simp only [List.getElem?_cons_zero, List.getElem?_cons_succ] at cs0
  have ck0 := (hbk).cell 0
  simp only [List.getElem?_cons_zero, List.getElem?_cons_succ] at ck0
  have hd := dict_find h s0 16 t hs (by decide) ht
  generalize hres : (findD s0 16 (homeD 16 (bsL t)) (packC (bsL t)) t.size 16 0).exec s = res at *
  have Hd := hid hd
  clear hd
  clear hbs hbk hres
  refine calls_hide fun R' hR' => ?_
  go_enter Try.func44, Try.ntmps44
  go_wp2_with fail
  refine (Hd.out).mono ?_
  rintro e w1 ⟨rfl, hR, hK⟩
  have hA := hba.keep hK hKa
  clear cs0 ck0 hba
  have ca0 := (hA).cell 0
  simp only [List.getElem?_cons_zero, List.getElem?_cons_succ] at ca0
  have fa := hA.free
  go_wp2_with fail
  go_end0
  have k1 : Keeps (fun x => K x ∧ x ≠ pa) w1 (w1.setCell ⟨pa, 0, none⟩ (.int .i64 res.1.1)) := (Keeps.refl _ _).setCell (by simp) _
  refine hR'.out _ _ ⟨rfl, hR.setK (a := ⟨pa, 0, none⟩) hKa _, (hK.mono fun b hb => hb.1).trans k1, ?_⟩
  simpa using hA.set 0 (.int .i64 res.1.1)

/-- a run stays one where the memory's cells and blocks under guard are turned -/
theorem RM.outside {w w' : World} {K : Nat → Prop} {r m c : Nat} {s : St} {μ : MemS} (h : RM w K r m c s) {L : Nat → Prop} (hm : MemAt w' m c μ) (hk : Keeps L w w') (hL : ∀ b, b < w.heap.size → b ≠ m → b ≠ c → ¬ K b → L b) : RM w' K r m c ⟨s.r, μ⟩ := by
  obtain ⟨g, h1, h2⟩ := h.run
  exact ⟨⟨g, h1.keep hk (hL r h1.obj.lt h.rm h.rc h.kr) (fun b hb => hL b (own_ne h1.log b hb) (h2 b hb).2.1 (h2 b hb).2.2.1 (h2 b hb).2.2.2), h2⟩, hm, h.rm, h.rc, h.kr, h.km, h.kc, fun b hb => by have := h.lt b hb; have := hk.size; omega⟩

/-- where the looking up stands: t0: the table as it began -/
def FState (key : List Int) (t0 t : Tab) (S : St) (got : Int) (d : Nat) : Prop :=
  (S.r.over = true ∧ FinD 16 key t0 t got) ∨
  (S.r.over = false ∧ ∃ rest, Way (findD 602 16 (homeD 16 key) (packC key) key.length 16 0) S rest ∧ FindAt 602 16 (homeD 16 key) key t0 t rest d)

theorem FinD.mono {n : Nat} {key : List Int} {t0 t t' : Tab} {x : Int} (h : FinD n key t0 t x) (hle : t.le t') : FinD n key t0 t' x := by
  rcases h with h | ⟨h1, i, a, h2, h3, h4⟩
  · exact Or.inl h
  · exact Or.inr ⟨h1, i, a, h2, hle _ _ h3, h4⟩
/-- somebody adds: the run itself stays -/
theorem FState.grow {key : List Int} {t0 t t' : Tab} {S : St} {got : Int} {d : Nat} (h : FState key t0 t S got d) (hle : t.le t') (μ : MemS) : FState key t0 t' ⟨S.r, μ⟩ got d := by
  rcases h with ⟨h1, h2⟩ | ⟨h1, rest, h2, h3⟩
  · exact Or.inl ⟨h1, h2.mono hle⟩
  · exact Or.inr ⟨h1, rest, ⟨h2.takes, h2.rest, h2.err, h2.over⟩, h3.mono hle⟩

set_option maxRecDepth 100000 in
set_option maxHeartbeats 1000000 in
/-- one Step of the run -/
theorem du_step {w : World} {K : Nat → Prop} {r m c : Nat} {S : St} (h : RM w K r m c S) (ps pk pa : Nat) (t : ByteArray) (o1 : Int) (ht : t.size ≤ 100)
    (hbs : Blk w ps [.int .i64 602]) (hbk : Blk w pk [.string t]) (hba : Blk w pa [.int .i64 o1]) (hKs : K ps) (hKk : K pk) (hKa : K pa) (hps : ps ≠ pa) (hpk : pk ≠ pa)
    {t0 T : Tab} {d u4 : Nat} (hf : FState (bsL t) t0 T S o1 d) (hR : Rep S.m.cells 602 16 T 3 (3 + u4)) (hW0 : WF t0 16 (homeD 16)) (hle : t0.le T) (hlog : S.r.log.length < 1099511627776) :
    Calls Try.prog 19 #[.pointer (some ⟨r, 0, none⟩), .func (.func 44) #[] #[.pointer (some ⟨ps, 0, none⟩), .pointer (some ⟨pk, 0, none⟩), .pointer (some ⟨pa, 0, none⟩)]] w fun e w' =>
      ∃ S' o2 d', e = .returned (.bool S'.r.over) ∧ RM w' K r m c S' ∧ Blk w' pa [.int .i64 o2] ∧ Keeps (fun x => K x ∧ x ≠ pa) w w' ∧ S'.m.cells = S.m.cells ∧ FState (bsL t) t0 T S' o2 d' ∧ (d' < d ∨ S'.r.over = true) ∧ S'.r.log.length ≤ S.r.log.length + 1 ∧ d' ≤ d ∧ (S.r.over = true → S'.r.over = true) := by
  rcases hf with ⟨h1, h2⟩ | ⟨h1, rest, h2, h3⟩
  · obtain ⟨g, hrun, _⟩ := h.run
    refine (run_step_over hrun h1 _).mono ?_
    rintro e w' ⟨rfl, rfl⟩
    exact ⟨S, o1, d, by rw [h1], h, hba, Keeps.refl _ _, rfl, Or.inl ⟨h1, h2⟩, Or.inr h1, Nat.le_succ _, Nat.le_refl _, fun h => h⟩
  · have hfs := find_step h2 h3 hR (by decide) (by decide) hW0 hle (fun x hx => bsL_range t x hx) (by rw [bsL_len]; exact ht)
    have hlen := bsL_len t
    rw [hlen] at hfs h2
    refine (run_step h h1 hlog 44 _ enters_du2 (findD 602 16 (homeD 16 (bsL t)) (packC (bsL t)) t.size 16 0)
      (fun w2 => Blk w2 pa [.int .i64 (S.step (findD 602 16 (homeD 16 (bsL t)) (packC (bsL t)) t.size 16 0)).1.1] ∧ Keeps (fun x => K x ∧ x ≠ pa) w w2) ?_).mono ?_
    · intro w1 hk1 hr1
      refine (du2_call hr1 ps pk pa 602 t o1 (by decide) (by omega) (hbs.keep hk1 hKs) (hbk.keep hk1 hKk) (hba.keep hk1 hKa) hKa).mono ?_
      rintro e w2 ⟨rfl, g1, g2, g3⟩
      exact ⟨rfl, g1, g3, (hk1.mono fun x hx => hx.1).trans g2⟩
    · rintro e w9 ⟨rfl, hR9, w2, ⟨q1, q2⟩, hk9⟩
      have hra : pa ≠ r := fun e => h.kr (e ▸ hKa)
      obtain ⟨f1, f2, f3⟩ := hfs
      have hk' : Keeps (fun x => K x ∧ x ≠ pa) w w9 := q2.trans (hk9.mono fun x hx e => h.kr (e ▸ hx.1))
      rcases f3 with ⟨f3, f4⟩ | ⟨f3, rest', d', f4, f5, f6⟩
      · exact ⟨_, _, 0, rfl, hR9, q1.keep hk9 hra, hk', f1, Or.inl ⟨f3, f4⟩, Or.inr f3, by rw [f2]; exact Nat.le_refl _, Nat.zero_le _, fun h => by rw [h1] at h; cases h⟩
      · exact ⟨_, _, d', rfl, hR9, q1.keep hk9 hra, hk', f1, Or.inr ⟨f3, rest', by rw [hlen]; exact f5, f6⟩, Or.inl f4, by rw [f2]; exact Nat.le_refl _, Nat.le_of_lt f4, fun h => by rw [h1] at h; cases h⟩
end Go.Proofs.Ytjnaibmnpajfdaa
