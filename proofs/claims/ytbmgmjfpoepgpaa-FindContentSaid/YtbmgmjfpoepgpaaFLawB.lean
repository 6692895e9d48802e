/- Layer 15's statements: the closures of the example; a term, a list read by a program. -/
import Derived.Test.YtbmgmjfpoepgpaaFLawA
import Derived.Test.YtbmgmjfpoepgpaaFindD
import Derived.Test.YtbmgmjfpoepgpaaQuietC
namespace Go.Proofs.Ytbmgmjfpoepgpaa
open Go.RowKit

theorem own_slAtL {w : World} {B : Nat} {E : TypeId} {n sz : Nat} {v : Value} {xs : List Value} (h : w.ownsRow B E sz v n xs) : SlAt w (fun b => v.ownBlock = some b) sz v n xs := by
  have hl := h.1
  rcases h.2 with ⟨h1, h2⟩ | ⟨b, cap, cur, h1, h0, h3, h4, h5, h6, h7⟩
  · exact ⟨none, 0, by rw [h1, h2], by omega, Nat.zero_le _, hl, fun hn => by omega⟩
  · refine ⟨some ⟨b, 0, none⟩, cap, h1, h4, h5, hl, fun hn => ⟨b, 0, rfl, by rw [h1]; rfl, fun j u hu => ?_⟩⟩
    have := h.cells (g := b) (by rw [h1]; rfl) j u hu
    have ea : (⟨b, 0, none⟩ : Addr).add j = ⟨b, j, none⟩ := by unfold Addr.add; split <;> simp_all
    rw [Nat.zero_add, ← ea]; exact this
/-- what a list was read as is stored -/
theorem store_list {w w' : World} {K G : Nat → Prop} {r m c : Nat} {s' : St} {g v0 : Value} {es : List EntM} {b8 : Nat} (hr : RM w' (fun y => (K y ∨ G y) ∨ g.ownBlock = some y) r m c s') (ho : ∃ cells, w'.ownsRow 0 71 2 g es.length cells ∧ EntAt w' G es cells)
    (h1 : ∀ y, g.ownBlock = some y → ¬ K y ∧ ¬ G y) (h2 : ∀ y, G y → ¬ K y) (hk : Keeps K w w') (hb : Blk w b8 [v0]) (hKb : K b8) :
    RM (w'.setCell ⟨b8, 0, none⟩ g) K r m c s' ∧ Blk (w'.setCell ⟨b8, 0, none⟩ g) b8 [g] ∧ EntV (w'.setCell ⟨b8, 0, none⟩ g) (fun b => b ≠ r ∧ b ≠ m ∧ b ≠ c ∧ ¬ K b ∧ b < w'.heap.size) g es ∧ Keeps (fun b => K b ∧ b ≠ b8) w (w'.setCell ⟨b8, 0, none⟩ g) := by
  obtain ⟨cells, o1, o2⟩ := ho
  have hset : Keeps (· ≠ b8) w' (w'.setCell ⟨b8, 0, none⟩ g) := (Keeps.refl _ _).setCell (fun h => h rfl) _
  refine ⟨(hr.mono fun b hb => Or.inl (Or.inl hb)).setK hKb _, by have := (hb.keep hk hKb).set 0 g; simpa using this, ?_, (hk.mono fun b hb => hb.1).trans (hset.mono fun b hb => hb.2)⟩
  have hE : EntV w' (fun y => G y ∨ g.ownBlock = some y) g es := ⟨cells, (own_slAtL o1).mono (fun b hb => Or.inr hb), EntAt.mono (fun b hb => Or.inl hb) es cells o2⟩
  refine (hE.keep hset (fun b hy e => ?_)).up (fun b hy => ?_)
  · rw [e] at hy
    rcases hy with hy | hy
    · exact h2 _ hy hKb
    · exact (h1 _ hy).1 hKb
  · have hin : (K b ∨ G b) ∨ g.ownBlock = some b := by
      rcases hy with hy | hy
      · exact Or.inl (Or.inr hy)
      · exact Or.inr hy
    refine ⟨fun e => hr.kr (e ▸ hin), fun e => hr.km (e ▸ hin), fun e => hr.kc (e ▸ hin), ?_, hr.lt b hin⟩
    rcases hy with hy | hy
    · exact h2 _ hy
    · exact (h1 _ hy).1

/-- a closure that finds a key's list, and stores where it is -/
def TermClo (f : FuncId) (key : ByteArray) : Prop := ∀ (w : World) (K : Nat → Prop) (r m c : Nat) (s : St) (ba bo : Nat) (a : Int) (v0 : Value), RM w K r m c s → Blk w ba [.int .i64 a] → Blk w bo [v0] → K ba → K bo → ba ≠ bo → 0 ≤ a ∧ a ≤ 70000 →
  Calls Try.prog f #[.pointer (some ⟨r, 0, none⟩), .pointer (some ⟨ba, 0, none⟩), .pointer (some ⟨bo, 0, none⟩)] w fun e w' => e = .returned (.tuple #[]) ∧ RM w' K r m c ((termT a key).exec s).2 ∧ Blk w' bo [.int .i64 ((termT a key).exec s).1] ∧ Keeps (fun b => K b ∧ b ≠ bo) w w'
set_option maxRecDepth 100000 in
set_option maxHeartbeats 1000000 in
theorem fixed_clo1 : TermClo 36 ⟨#[0, 102, 111, 120]⟩ := by
  intro w K r m c s ba bo a v0 h hba hbo hKa hKo hne ha
  have HT := hid (find_term h a ⟨by omega, by omega⟩ ⟨#[0, 102, 111, 120]⟩)
  have hba0 := hba
  have x0 := (hba0).cell 0
  simp only [List.getElem?_cons_zero] at x0
  clear hba0
  generalize (termT a ⟨#[0, 102, 111, 120]⟩).exec s = res at *
  have Hba := hid hba
  have Hbo := hid hbo
  have HKo := hid hKo
  clear h hba hbo hKa hne ha hKo
  refine calls_hide fun R' hR' => ?_
  go_enter Try.func36, Try.ntmps36
  go_wp2_with fail
  refine HT.out.mono ?_
  rintro e w1 ⟨rfl, hr1, hk1⟩
  have hb1 := Hbo.out.keep hk1 HKo.out
  have y0 := hb1.cell 0
  have f0 := hb1.free 0
  simp only [List.getElem?_cons_zero] at y0
  have Hr1 := hid hr1
  have Hk1 := hid hk1
  have Hb1 := hid hb1
  clear hr1 hk1 hb1
  go_wp2_with fail
  go_end0
  refine hR'.out _ _ ⟨rfl, Hr1.out.setK HKo.out _, by have := Hb1.out.set 0 (.int .i64 res.1); simpa using this, (Hk1.out.mono fun b hb => hb.1).setCell (fun h => h.2 rfl) _⟩
set_option maxRecDepth 100000 in
set_option maxHeartbeats 1000000 in
theorem fixed_clo2 : TermClo 37 ⟨#[0, 100, 111, 103]⟩ := by
  intro w K r m c s ba bo a v0 h hba hbo hKa hKo hne ha
  have HT := hid (find_term h a ⟨by omega, by omega⟩ ⟨#[0, 100, 111, 103]⟩)
  have hba0 := hba
  have x0 := (hba0).cell 0
  simp only [List.getElem?_cons_zero] at x0
  clear hba0
  generalize (termT a ⟨#[0, 100, 111, 103]⟩).exec s = res at *
  have Hba := hid hba
  have Hbo := hid hbo
  have HKo := hid hKo
  clear h hba hbo hKa hne ha hKo
  refine calls_hide fun R' hR' => ?_
  go_enter Try.func37, Try.ntmps37
  go_wp2_with fail
  refine HT.out.mono ?_
  rintro e w1 ⟨rfl, hr1, hk1⟩
  have hb1 := Hbo.out.keep hk1 HKo.out
  have y0 := hb1.cell 0
  have f0 := hb1.free 0
  simp only [List.getElem?_cons_zero] at y0
  have Hr1 := hid hr1
  have Hk1 := hid hk1
  have Hb1 := hid hb1
  clear hr1 hk1 hb1
  go_wp2_with fail
  go_end0
  refine hR'.out _ _ ⟨rfl, Hr1.out.setK HKo.out _, by have := Hb1.out.set 0 (.int .i64 res.1); simpa using this, (Hk1.out.mono fun b hb => hb.1).setCell (fun h => h.2 rfl) _⟩

/-- a closure that reads a list, and stores what it read -/
def ListClo (f : FuncId) (most : Int) : Prop := ∀ (w : World) (K : Nat → Prop) (r m c : Nat) (s : St) (ba bo : Nat) (a : Int) (v0 : Value), RM w K r m c s → Blk w ba [.int .i64 a] → Blk w bo [v0] → K ba → K bo → ba ≠ bo → 0 ≤ a ∧ a ≤ 70000 →
  Calls Try.prog f #[.pointer (some ⟨r, 0, none⟩), .pointer (some ⟨ba, 0, none⟩), .pointer (some ⟨bo, 0, none⟩)] w fun e w' => e = .returned (.tuple #[]) ∧ RM w' K r m c ((listT a most).exec s).2 ∧
    (∃ g, Blk w' bo [g] ∧ EntV w' (fun b => b ≠ r ∧ b ≠ m ∧ b ≠ c ∧ ¬ K b ∧ b < w'.heap.size) g ((listT a most).exec s).1) ∧ Keeps (fun b => K b ∧ b ≠ bo) w w'
set_option maxRecDepth 100000 in
set_option maxHeartbeats 1000000 in
theorem fixed_clo3 : ListClo 38 1 := by
  intro w K r m c s ba bo a v0 h hba hbo hKa hKo hne ha
  have HT := hid (find_list h a 1 ⟨by omega, by omega⟩ ⟨by decide, by decide⟩)
  have hba0 := hba
  have x0 := (hba0).cell 0
  simp only [List.getElem?_cons_zero] at x0
  clear hba0
  generalize (listT a 1).exec s = res at *
  have Hbo := hid hbo
  have HKo := hid hKo
  clear h hba hbo hKa hne ha hKo
  refine calls_hide fun R' hR' => ?_
  go_enter Try.func38, Try.ntmps38
  go_wp2_with fail
  refine HT.out.mono ?_
  rintro e w1 ⟨g, G, rfl, hr1, ho1, hg1, hG1, hk1⟩
  obtain ⟨A, cp, rfl⟩ := own_slice0 ho1.choose_spec.1
  have hb1 := Hbo.out.keep hk1 HKo.out
  have y0 := hb1.cell 0
  have f0 := hb1.free 0
  simp only [List.getElem?_cons_zero] at y0
  have hst := store_list hr1 ho1 hg1 hG1 hk1 Hbo.out HKo.out
  have Hst := hid hst
  clear hst
  clear hr1 ho1 hg1 hG1 hk1 hb1 x0 HT
  go_wp2_with fail
  go_end0
  exact hR'.out _ _ ⟨rfl, Hst.out.1, ⟨_, Hst.out.2.1, Hst.out.2.2.1.up (fun b hb => by simpa using hb)⟩, Hst.out.2.2.2⟩

theorem whole_term {f : FuncId} {key : ByteArray} (hent : ∀ (args : Array Value) (w : World), (callFunc f args).run Try.prog w = .ok (.enter f args) w) (hf : TermClo f key) {w : World} {m c : Nat} {μ : MemS} (hm : MemAt w m c μ) (K : Nat → Prop) (hKm : ¬ K m) (hKc : ¬ K c) (hlt : ∀ b, K b → b < w.heap.size)
    (ba bo : Nat) (a : Int) (v0 : Value) (hba : Blk w ba [.int .i64 a]) (hbo : Blk w bo [v0]) (hKa : K ba) (hKo : K bo) (hne : ba ≠ bo) (ha : 0 ≤ a ∧ a ≤ 70000) {x : Int} {N : Nat} (most : Nat) (hr : (termT a key).ReadsN μ.cells N fun y => y = x) (hN : N ≤ most) (hm0 : 0 < most) (hm9 : most ≤ 1000000) :
    Calls Try.prog 22 #[.pointer (some ⟨m, 0, none⟩), .int .i64 (most : Int), .func (.func f) #[] #[.pointer (some ⟨ba, 0, none⟩), .pointer (some ⟨bo, 0, none⟩)]] w fun e w' =>
      e = .returned (.bool true) ∧ (∃ μ', MemAt w' m c μ' ∧ μ'.cells = μ.cells) ∧ Keeps (fun b => K b ∧ b ≠ bo) w w' ∧ Blk w' bo [.int .i64 x] := by
  obtain ⟨x', n, h1, h2, rfl⟩ := hr
  refine (whole15 hm hKm hKc hlt f #[.pointer (some ⟨ba, 0, none⟩), .pointer (some ⟨bo, 0, none⟩)] hent (termT a key) h1 most (Nat.le_trans h2 hN) hm0 hm9 (fun w1 => Keeps (fun b => K b ∧ b ≠ bo) w w1 ∧ ∃ v, Blk w1 bo [v]) (fun _ y w1 => Blk w1 bo [.int .i64 y]) ⟨Keeps.refl _ _, v0, hbo⟩ ?_ ?_ ?_).mono ?_
  · rintro w1 w2 ⟨k1, v, hb⟩ k2
    exact ⟨k1.trans (k2.mono fun b hb => hb.1), v, hb.keep k2 hKo⟩
  · rintro r y w1 w2 hKr hb k2
    exact hb.keep k2 (fun e => hKr (e ▸ hKo))
  · rintro w1 r s1 ⟨k1, v, hb⟩ hr1
    refine (hf w1 K r m c s1 ba bo a v hr1 (hba.keep k1 ⟨hKa, hne⟩) hb hKa hKo hne ha).mono ?_
    rintro e w2 ⟨rfl, h3, h4, h5⟩
    exact ⟨rfl, h3, ⟨k1.trans h5, _, h4⟩, h4⟩
  · rintro e w' ⟨rfl, h3, ⟨h4, _⟩, ⟨r, _, h5⟩, _⟩
    exact ⟨rfl, h3, h4, h5⟩
theorem whole_list {f : FuncId} {mo : Int} (hent : ∀ (args : Array Value) (w : World), (callFunc f args).run Try.prog w = .ok (.enter f args) w) (hf : ListClo f mo) {w : World} {m c : Nat} {μ : MemS} (hm : MemAt w m c μ) (K : Nat → Prop) (hKm : ¬ K m) (hKc : ¬ K c) (hlt : ∀ b, K b → b < w.heap.size)
    (ba bo : Nat) (a : Int) (v0 : Value) (hba : Blk w ba [.int .i64 a]) (hbo : Blk w bo [v0]) (hKa : K ba) (hKo : K bo) (hne : ba ≠ bo) (ha : 0 ≤ a ∧ a ≤ 70000) {x : List EntM} {N : Nat} (most : Nat) (hr : (listT a mo).ReadsN μ.cells N fun y => y = x) (hN : N ≤ most) (hm0 : 0 < most) (hm9 : most ≤ 1000000) :
    Calls Try.prog 22 #[.pointer (some ⟨m, 0, none⟩), .int .i64 (most : Int), .func (.func f) #[] #[.pointer (some ⟨ba, 0, none⟩), .pointer (some ⟨bo, 0, none⟩)]] w fun e w' =>
      e = .returned (.bool true) ∧ (∃ μ', MemAt w' m c μ' ∧ μ'.cells = μ.cells) ∧ Keeps (fun b => K b ∧ b ≠ bo) w w' ∧ ∃ g, Blk w' bo [g] ∧ EntV w' (fun b => b ≠ m ∧ b ≠ c ∧ ¬ K b ∧ b < w'.heap.size) g x := by
  obtain ⟨x', n, h1, h2, rfl⟩ := hr
  refine (whole15 hm hKm hKc hlt f #[.pointer (some ⟨ba, 0, none⟩), .pointer (some ⟨bo, 0, none⟩)] hent (listT a mo) h1 most (Nat.le_trans h2 hN) hm0 hm9 (fun w1 => Keeps (fun b => K b ∧ b ≠ bo) w w1 ∧ ∃ v, Blk w1 bo [v]) (fun r y w1 => ∃ g, Blk w1 bo [g] ∧ EntV w1 (fun b => b ≠ r ∧ b ≠ m ∧ b ≠ c ∧ ¬ K b ∧ b < w1.heap.size) g y) ⟨Keeps.refl _ _, v0, hbo⟩ ?_ ?_ ?_).mono ?_
  · rintro w1 w2 ⟨k1, v, hb⟩ k2
    exact ⟨k1.trans (k2.mono fun b hb => hb.1), v, hb.keep k2 hKo⟩
  · rintro r y w1 w2 hKr ⟨g, hb, he⟩ k2
    exact ⟨g, hb.keep k2 (fun e => hKr (e ▸ hKo)), (he.keep k2 (fun b hb => hb.1)).up fun b hb => ⟨hb.1, hb.2.1, hb.2.2.1, hb.2.2.2.1, Nat.lt_of_lt_of_le hb.2.2.2.2 k2.size⟩⟩
  · rintro w1 r s1 ⟨k1, v, hb⟩ hr1
    refine (hf w1 K r m c s1 ba bo a v hr1 (hba.keep k1 ⟨hKa, hne⟩) hb hKa hKo hne ha).mono ?_
    rintro e w2 ⟨rfl, h3, ⟨g, h4, h6⟩, h5⟩
    exact ⟨rfl, h3, ⟨k1.trans h5, _, h4⟩, g, h4, h6⟩
  · rintro e w' ⟨rfl, h3, ⟨h4, _⟩, ⟨r, _, g, h5, h6⟩, _⟩
    exact ⟨rfl, h3, h4, g, h5, h6.up fun b hb => ⟨hb.2.1, hb.2.2.1, hb.2.2.2.1, hb.2.2.2.2⟩⟩
end Go.Proofs.Ytbmgmjfpoepgpaa
