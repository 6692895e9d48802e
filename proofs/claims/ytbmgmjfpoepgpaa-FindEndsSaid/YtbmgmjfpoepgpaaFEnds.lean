/- FindEnds: the walk. -/
import Derived.Test.YtbmgmjfpoepgpaaFLawC
namespace Go.Proofs.Ytbmgmjfpoepgpaa
open Go.RowKit

/-- a Step of a program that loads alone, on any memory -/
theorem cost_step {α : Type} {t rest : Tree α} {s : St} {j N : Nat} (h : Way t s rest) (hc : rest.Cost (fun _ c => c ≤ N) j) :
    ((s.step t).2.r.over = true ∧ (s.step t).2.m.cells = s.m.cells) ∨
    ((s.step t).2.r.over = false ∧ j + 1 ≤ N ∧ (s.step t).2.m.cells = s.m.cells ∧ (s.step t).2.r.log.length = s.r.log.length + 1 ∧ ∃ rest', Way t (s.step t).2 rest' ∧ rest'.Cost (fun _ c => c ≤ N) (j + 1)) := by
  have hn : rest.norm = rest := by rw [← h.rest]; exact t.peel_norm _
  rcases rest.norm_cases hn with ⟨y, e⟩ | ⟨a, k, e⟩ | ⟨a, v, k, e⟩
  · subst e
    rw [way_end h]
    exact Or.inl ⟨rfl, rfl⟩
  · subst e
    have hk := hc (s.m.at a)
    by_cases hi : s.m.inb a = true
    · obtain ⟨w1, _⟩ := way_load h hi
      have hcl : (s.step t).2.m.cells = s.m.cells := by rw [w1]; simp [MemS.load, hi]
      cases hr : (k (s.m.at a)).norm.isRet
      · exact Or.inr ⟨by rw [w1]; exact hr, Tree.cost_le (fun _ _ h => h) _ _ hk, hcl, by rw [w1]; simp, _, way_next_load h hi hr, Tree.cost_norm _ _ hk⟩
      · exact Or.inl ⟨by rw [w1]; exact hr, hcl⟩
    · have hi : s.m.inb a = false := by simpa using hi
      rw [way_load_out h hi]
      exact Or.inl ⟨rfl, rfl⟩
  · subst e
    exact hc.elim
theorem RM.start {w : World} {K : Nat → Prop} {r m c : Nat} {μ : MemS} {σ : RunS} (hr : RunAt w r m (.slice none 0 0) σ) (hm : MemAt w m c μ) (hrm : r ≠ m) (hrc : r ≠ c) (hK : ∀ b, K b → b ≠ r ∧ b ≠ m ∧ b ≠ c ∧ b < w.heap.size) : RM w K r m c ⟨σ, μ⟩ :=
  ⟨⟨_, hr, fun k hk => by cases hk⟩, hm, hrm, hrc, fun h => (hK _ h).1 rfl, fun h => (hK _ h).2.1 rfl, fun h => (hK _ h).2.2.1 rfl, fun b hb => (hK b hb).2.2.2⟩
theorem over_blk {w : World} {r : Nat} {x0 x1 x2 x3 x4 x5 x7 : Value} {o : Bool} (h : Blk w r [x0, x1, x2, x3, x4, x5, .bool o, x7]) :
    Calls Try.prog 33 #[.pointer (some ⟨r, 0, none⟩)] w fun e w' => e = .returned (.bool o) ∧ w = w' := by
  have c6 := h.cell 6
  simp only [List.getElem?_cons_zero, List.getElem?_cons_succ] at c6
  clear h
  refine calls_hide fun R' hR' => ?_
  go_enter Try.func33, Try.ntmps33
  go_wp2
  exact hR'.out _ _ ⟨rfl, rfl⟩

set_option maxRecDepth 100000 in
set_option maxHeartbeats 1000000 in
theorem ends_clo1 {w : World} {K : Nat → Prop} {r m c : Nat} {s : St} {ba bk : Nat} {a : Int} {key : ByteArray} (h : RM w K r m c s) (hba : Blk w ba [.int .i64 a]) (hbk : Blk w bk [.string key]) (ha : -1000 ≤ a ∧ a ≤ 1000) :
    Calls Try.prog 31 #[.pointer (some ⟨r, 0, none⟩), .pointer (some ⟨ba, 0, none⟩), .pointer (some ⟨bk, 0, none⟩)] w fun e w' => e = .returned (.tuple #[]) ∧ RM w' K r m c ((termT a key).exec s).2 ∧ Keeps K w w' := by
  have HT := hid (find_term h a ⟨by omega, by omega⟩ key)
  have x0 := (hba).cell 0
  simp only [List.getElem?_cons_zero] at x0
  have y0 := (hbk).cell 0
  simp only [List.getElem?_cons_zero] at y0
  generalize (termT a key).exec s = res at *
  clear h hba hbk ha
  refine calls_hide fun R' hR' => ?_
  go_enter Try.func31, Try.ntmps31
  go_wp2_with fail
  refine HT.out.mono ?_
  rintro e w1 ⟨rfl, hr1, hk1⟩
  have Hr1 := hid hr1
  have Hk1 := hid hk1
  clear hr1 hk1
  go_wp2_with fail
  go_end0
  exact hR'.out _ _ ⟨rfl, Hr1.out, Hk1.out⟩
set_option maxRecDepth 100000 in
set_option maxHeartbeats 1000000 in
theorem ends_clo2 {w : World} {K : Nat → Prop} {r m c : Nat} {s : St} {ba bm : Nat} {a most : Int} (h : RM w K r m c s) (hba : Blk w ba [.int .i64 a]) (hbm : Blk w bm [.int .i64 most]) (ha : -1000 ≤ a ∧ a ≤ 1000) (hmo : -9223372036854775808 ≤ most ∧ most ≤ 9223372036854775807) :
    Calls Try.prog 32 #[.pointer (some ⟨r, 0, none⟩), .pointer (some ⟨ba, 0, none⟩), .pointer (some ⟨bm, 0, none⟩)] w fun e w' => e = .returned (.tuple #[]) ∧ RM w' K r m c ((listT a most).exec s).2 ∧ Keeps K w w' := by
  have HT := hid (find_list h a most ⟨by omega, by omega⟩ hmo)
  have x0 := (hba).cell 0
  simp only [List.getElem?_cons_zero] at x0
  have y0 := (hbm).cell 0
  simp only [List.getElem?_cons_zero] at y0
  generalize (listT a most).exec s = res at *
  clear h hba hbm ha hmo
  refine calls_hide fun R' hR' => ?_
  go_enter Try.func32, Try.ntmps32
  go_wp2_with fail
  refine HT.out.mono ?_
  rintro e w1 ⟨g, G, rfl, hr1, ho1, _, _, hk1⟩
  have hr2 := hr1.mono (K' := K) (fun b hb => Or.inl (Or.inl hb))
  obtain ⟨A, cp, rfl⟩ := own_slice0 ho1.choose_spec.1
  have Hr2 := hid hr2
  have Hk1 := hid hk1
  clear hr2 hk1
  clear hr1 ho1
  go_wp2_with fail
  go_end0
  exact hR'.out _ _ ⟨rfl, Hr2.out, Hk1.out⟩

set_option maxRecDepth 100000 in
set_option maxHeartbeats 8000000 in
theorem ends_walk (A : Option Addr) (cap : Nat) (xs : List Int) (a : Int) (key : ByteArray) (most : Int) (hu : ∀ x ∈ xs, U32 x) (ha63 : -9223372036854775808 ≤ a ∧ a ≤ 9223372036854775807) (hkz : key.size ≤ 140737488351232) (hmo : -9223372036854775808 ≤ most ∧ most ≤ 9223372036854775807) (w : World) (hs : SlAt w (· < w.heap.size) 1 (.slice A xs.length cap) xs.length (xs.map (Value.int .u32))) :
    Calls Try.prog 7 #[.slice A xs.length cap, .int .i64 a, .string key, .int .i64 most] w fun e w' => e = .returned (.bool true) ∧ Keeps (· < w.heap.size) w w' := by
  obtain ⟨A0, cap0, he, hd1, hd2⟩ := hs.form
  injection he with e1 _ e3
  subst e1 e3
  unfold maxLen at hd2
  have HU := hid hu
  have HS := hid hs
  have HMO := hid hmo
  clear hu hs hmo
  obtain ⟨n, hn⟩ : ∃ n, n = xs.length := ⟨_, rfl⟩
  rw [← hn] at HS hd1 ⊢
  have HN := hid hn
  clear hn
  refine calls_hide fun R' hR' => ?_
  go_enter Try.func7, Try.ntmps7
  by_cases h1 : ¬ 1 ≤ n ∨ 400 < n ∨ a < -1000 ∨ 1000 < a ∨ 100 < key.size
  · have hF := fun w => fixed15 w
    have HF := hid hF
    clear hF
    rcases (by omega : n < 1 ∨ (1 ≤ n ∧ 400 < n) ∨ (1 ≤ n ∧ n ≤ 400 ∧ a < -1000) ∨ (1 ≤ n ∧ n ≤ 400 ∧ -1000 ≤ a ∧ 1000 < a) ∨ (1 ≤ n ∧ n ≤ 400 ∧ -1000 ≤ a ∧ a ≤ 1000 ∧ 100 < key.size)) with g | ⟨g0, g⟩ | ⟨g0, g1, g⟩ | ⟨g0, g1, g2, g⟩ | ⟨g0, g1, g2, g3, g⟩
    all_goals
      clear h1
      go_wp2_with fail
      refine (HF.out _).mono ?_
      rintro e w1 ⟨rfl, hk1⟩
      have hkk : Keeps (· < w.heap.size) w w1 := by
        refine Keeps.trans ?_ (hk1.mono fun b hb => by simp; omega)
        exact (((Keeps.refl _ _).alloc (fun b hb => hb) _).alloc (fun b hb => by simp; omega) _).alloc (fun b hb => by simp; omega) _
      have Hkk := hid hkk
      clear hkk
      clear hk1
      go_wp2_with fail
      exact hR'.out _ _ ⟨rfl, Hkk.out⟩
  have g0 : 1 ≤ n := by omega
  have g1 : n ≤ 400 := by omega
  have g2 : -1000 ≤ a := by omega
  have g3 : a ≤ 1000 := by omega
  have g4 : key.size ≤ 100 := by omega
  clear h1
  go_wp2_with fail
  obtain ⟨ws, hws⟩ : ∃ ws, ws = w.heap.size := ⟨_, rfl⟩
  refine calls_gen (fun W => Blk W ws [.int .i64 a] ∧ Blk W (ws + 1) [.string key] ∧ Blk W (ws + 1 + 1) [.int .i64 most] ∧ SlAt W (· < W.heap.size) 1 (.slice A n cap) n (xs.map (Value.int .u32)) ∧ Keeps (· < ws) w W ∧ ws + 3 = W.heap.size) ⟨?_, ?_, ?_, ?_, ?_, by simp; omega⟩ ?_
  · exact (((Blk.new' _ _ _ hws).alloc _).alloc _)
  · exact ((Blk.new' _ _ _ (by simp [hws])).alloc _)
  · exact Blk.new' _ _ _ (by simp [hws])
  · have k3 : Keeps (· < w.heap.size) w (((w.alloc (.cells #[.int .i64 a] 3)).alloc (.cells #[.string key] 9)).alloc (.cells #[.int .i64 most] 3)) := (((Keeps.refl _ _).alloc (fun b hb => hb) _).alloc (fun b hb => by simp; omega) _).alloc (fun b hb => by simp; omega) _
    exact (HS.out.keep k3 (fun b hb => hb)).mono (fun b hb => by simp; omega)
  · exact (((Keeps.refl _ _).alloc (fun b hb => by omega) _).alloc (fun b hb => by simp; omega) _).alloc (fun b hb => by simp; omega) _
  rintro W1 ⟨hA1, hK1, hM1, hS1, hk1, hz1⟩
  rw [← hws] at hR' ⊢
  have hWS := hid hws
  clear hws HS
  generalize hbk : ws + 1 = bk at *
  generalize hbm : bk + 1 = bm at *
  refine (of15 A n cap xs HN.out.symm g0 (by omega) HU.out W1 hS1).mono ?_
  rintro e w2 ⟨rfl, ⟨μ2, hm2, hc2⟩, hk2⟩
  have hl1 := hA1.lt
  have hl2 := hK1.lt
  have hl3 := hM1.lt
  have hA2 := hA1.keep hk2 hl1
  have hK2 := hK1.keep hk2 hl2
  have hM2 := hM1.keep hk2 hl3
  have hS2 := hS1.keep hk2 (fun b hb => hb)
  have hkk2 := hk1.trans (hk2.mono fun b hb => by omega)
  have hz2 := hk2.size
  generalize hcc : W1.heap.size = c at *
  generalize hmm : c + 1 = m at *
  have hcm : c < m := by omega
  have hm2l := hm2.obj.lt
  have hc2l := hm2.cells.lt
  have Hm2 := hid hm2
  have Hc2 := hid hc2
  have HA2 := hid hA2
  have HK2 := hid hK2
  have HM2 := hid hM2
  have HS2 := hid hS2
  have Hkk2 := hid hkk2
  clear hm2 hc2 hA2 hK2 hM2 hS2 hkk2
  clear hA1 hK1 hM1 hS1 hk1 hk2
  go_wp2_with fail
  refine (step_new w2 m).mono ?_
  rintro e w3 ⟨rfl, hr3, hk3, hz3⟩
  generalize hrr : w2.heap.size = r at *
  have hcr : c < r := by omega
  have hmr : m < r := by omega
  have Hr3 := hid hr3
  have Hk3 := hid hk3
  clear hr3 hk3
  go_wp2_with fail
  refine (step_new w3 m).mono ?_
  rintro e w4 ⟨rfl, hq4, hk4, hz4⟩
  generalize hqq : w3.heap.size = q at *
  have hrq : r < q := by omega
  have k24 : Keeps (· < r) w2 w4 := Hk3.out.trans (hk4.mono fun b hb => by omega)
  have hr4 := Hr3.out.keep hk4 (show r < q from hrq) (fun b hb => by cases hb)
  have hm4 := Hm2.out.keep k24 hm2l hc2l
  have hA4 := HA2.out.keep k24 (show ws < r by omega)
  have hK4 := HK2.out.keep k24 (show bk < r by omega)
  have hM4 := HM2.out.keep k24 (show bm < r by omega)
  have hS4 := HS2.out.keep k24 (show ∀ b, b < c → b < r by intro b hb; omega)
  have hkk4 := Hkk2.out.trans (k24.mono fun b hb => by omega)
  have hR4 : RM w4 (fun b => b ≠ m ∧ b ≠ c ∧ b ≠ r ∧ b < w4.heap.size) r m c ⟨run0, μ2⟩ := RM.start hr4 hm4 (by omega) (by omega) (fun b hb => ⟨hb.2.2.1, hb.1, hb.2.1, hb.2.2.2⟩)
  have HR4 := hid hR4
  have HA4 := hid hA4
  have HK4 := hid hK4
  have HM4 := hid hM4
  have HS4 := hid hS4
  have Hkk4 := hid hkk4
  have Hq4 := hid hq4
  clear hR4 hA4 hK4 hM4 hS4 hkk4 hq4
  clear Hm2 HA2 HK2 HM2 HS2 Hkk2 Hr3 Hk3 hk4 k24 hr4 hm4 hz3 hm2l hc2l
  go_wp2_with fail
  go_loopw [42] (fun iv wr => ∃ (j : Nat) (s : St) (rest : Tree Int), iv = .int .i64 (j : Int) ∧ j ≤ 2060 ∧ Hid (Way (termT a key) s rest) ∧ Hid (rest.Cost (fun _ c => c ≤ 2060) j) ∧ Hid (s.r.log.length = j) ∧ Hid (s.m.cells = xs) ∧ Hid (RM wr (fun b => b ≠ m ∧ b ≠ c ∧ b ≠ r ∧ b < w4.heap.size) r m c s) ∧ Hid (Keeps (fun b => b ≠ m ∧ b ≠ c ∧ b ≠ r ∧ b < w4.heap.size) w4 wr)) (fun iv _ => 70000 - (intOf iv).toNat)
  case atStart => exact ⟨0, _, _, rfl, Nat.zero_le _, hid (way_start (termT a key) μ2 false false false 0), hid (Tree.cost_norm _ _ (by have := cost_term a key 0; simpa using this)), hid rfl, Hc2, HR4, hid (Keeps.refl _ _)⟩
  case round =>
    obtain ⟨j, s, rest, rfl, hj, HWY, HCO, HLG, HCX, HR, HKr⟩ := hrel
    have hjI : (j : Int) < 70000 := by omega
    go_wp2_with fail
    refine (run_step HR.out HWY.out.over (by have := HLG.out; omega) 31 #[.pointer (some ⟨ws, 0, none⟩), .pointer (some ⟨bk, 0, none⟩)] (fun _ _ => by rfl) (termT a key) (fun w2 => Keeps (fun b => b ≠ m ∧ b ≠ c ∧ b ≠ r ∧ b < w4.heap.size) w4 w2) ?_).mono ?_
    · intro v1 hkv hRv
      have hk0 := HKr.out.trans hkv
      refine (ends_clo1 hRv (HA4.out.keep hk0 ⟨by omega, by omega, by omega, by omega⟩) (HK4.out.keep hk0 ⟨by omega, by omega, by omega, by omega⟩) ⟨g2, g3⟩).mono ?_
      rintro e v2 ⟨rfl, h1, h2⟩
      exact ⟨rfl, h1, hk0.trans h2⟩
    rintro e w9 ⟨rfl, hR9, v2, hkv2, hk9⟩
    have hkk9 := hkv2.trans (hk9.mono fun b hb => hb.2.2.1)
    rcases cost_step HWY.out HCO.out with ⟨q1, q2⟩ | ⟨q1, q2, q3, q4, rest', q5, q6⟩
    · rw [q1]
      have hc9 := q2.trans HCX.out
      generalize (s.step (termT a key)).2 = s9 at *
      obtain ⟨gr, hrun, _⟩ := hR9.run
      have hO9 := hrun.obj
      rw [q1] at hO9
      have hm9 := hR9.mem
      have hq9 := Hq4.out.keep hkk9 ⟨by omega, by omega, by omega, by omega⟩ (fun b hb => by cases hb)
      have hA9 := HA4.out.keep hkk9 ⟨by omega, by omega, by omega, by omega⟩
      have hM9 := HM4.out.keep hkk9 ⟨by omega, by omega, by omega, by omega⟩
      have hS9 := HS4.out.keep hkk9 (show ∀ b, b < c → _ by intro b hb; exact ⟨by omega, by omega, by omega, by omega⟩)
      have hkw9 := Hkk4.out.trans (hkk9.mono fun b hb => ⟨by omega, by omega, by omega, by omega⟩)
      have hz9 := hkk9.size
      have hR2 : RM w9 (fun b => b ≠ m ∧ b ≠ c ∧ b ≠ q ∧ b < w9.heap.size) q m c ⟨run0, s9.m⟩ := RM.start hq9 hm9 (by omega) (by omega) (fun b hb => ⟨hb.2.2.1, hb.1, hb.2.1, hb.2.2.2⟩)
      have HR2 := hid hR2
      have HA9 := hid hA9
      have HM9 := hid hM9
      have HS9 := hid hS9
      have Hkw9 := hid hkw9
      have HO9 := hid hO9
      have Hc9 := hid hc9
      clear hR2 hA9 hM9 hS9 hkw9 hO9 hc9
      clear hR9 hkv2 hk9 hkk9 q1 q2 hrun hm9 hq9 HR4 HA4 HK4 HM4 HS4 Hkk4 Hq4 HWY HCO HLG HCX HR HKr
      go_wp2_with fail
      go_loopw [48] (fun iv wr => ∃ (j : Nat) (s : St) (rest : Tree (List EntM)), iv = .int .i64 (j : Int) ∧ j ≤ 20660 ∧ Hid (Way (listT a most) s rest) ∧ Hid (rest.Cost (fun _ c => c ≤ 20660) j) ∧ Hid (s.r.log.length = j) ∧ Hid (s.m.cells = xs) ∧ Hid (RM wr (fun b => b ≠ m ∧ b ≠ c ∧ b ≠ q ∧ b < w9.heap.size) q m c s) ∧ Hid (Keeps (fun b => b ≠ m ∧ b ≠ c ∧ b ≠ q ∧ b < w9.heap.size) w9 wr)) (fun iv _ => 70000 - (intOf iv).toNat)
      case atStart => exact ⟨0, _, _, rfl, Nat.zero_le _, hid (way_start (listT a most) s9.m false false false 0), hid (Tree.cost_norm _ _ (by have := cost_list a most 0; simpa using this)), hid rfl, Hc9, HR2, hid (Keeps.refl _ _)⟩
      case round =>
        rename World => wr
        obtain ⟨j, s, rest, rfl, hj, HWY, HCO, HLG, HCX, HR, HKr⟩ := hrel
        have hjI : (j : Int) < 70000 := by omega
        go_wp2_with fail
        refine (run_step HR.out HWY.out.over (by have := HLG.out; omega) 32 #[.pointer (some ⟨ws, 0, none⟩), .pointer (some ⟨bm, 0, none⟩)] (fun _ _ => by rfl) (listT a most) (fun w2 => Keeps (fun b => b ≠ m ∧ b ≠ c ∧ b ≠ q ∧ b < w9.heap.size) w9 w2) ?_).mono ?_
        · intro v1 hkv hRv
          have hk0 := HKr.out.trans hkv
          refine (ends_clo2 hRv (HA9.out.keep hk0 ⟨by omega, by omega, by omega, by omega⟩) (HM9.out.keep hk0 ⟨by omega, by omega, by omega, by omega⟩) ⟨g2, g3⟩ HMO.out).mono ?_
          rintro e v2 ⟨rfl, h1, h2⟩
          exact ⟨rfl, h1, hk0.trans h2⟩
        rintro e wa ⟨rfl, hRa, v2, hkv2, hka⟩
        have hkka := hkv2.trans (hka.mono fun b hb => hb.2.2.1)
        rcases cost_step HWY.out HCO.out with ⟨q1, q2⟩ | ⟨q1, q2, q3, q4, rest', q5, q6⟩
        · rw [q1]
          have hca := q2.trans HCX.out
          generalize (s.step (listT a most)).2 = sa at *
          obtain ⟨gq, hrun, _⟩ := hRa.run
          have hQa := hrun.obj
          rw [q1] at hQa
          have hma := hRa.mem
          have hOa := HO9.out.keep hkka ⟨by omega, by omega, by omega, by omega⟩
          have hSa := HS9.out.keep hkka (show ∀ b, b < c → _ by intro b hb; exact ⟨by omega, by omega, by omega, by omega⟩)
          have hkwa := Hkw9.out.trans (hkka.mono fun b hb => ⟨by omega, by omega, by omega, by omega⟩)
          have hza := hkka.size
          have Hma := hid hma
          have HOa := hid hOa
          have HSa := hid hSa
          have Hkwa := hid hkwa
          have HQa := hid hQa
          have Hca := hid hca
          clear hma hOa hSa hkwa hQa hca
          clear hRa hkv2 hka hkka q1 q2 hrun HR2 HA9 HM9 HS9 Hkw9 HO9 Hc9 HWY HCO HLG HCX HR HKr
          go_wp2_with fail
          refine (fixed15 wa).mono ?_
          rintro e wb ⟨rfl, hkb⟩
          have hmal := Hma.out.obj.lt
          have hcal := Hma.out.cells.lt
          have hmb := Hma.out.keep hkb hmal hcal
          have hOb := HOa.out.keep hkb HOa.out.lt
          have hQb := HQa.out.keep hkb HQa.out.lt
          have hSb := HSa.out.keep hkb (show ∀ b, b < c → b < wa.heap.size by intro b hb; omega)
          have hkwb := Hkwa.out.trans (hkb.mono fun b hb => by omega)
          have hzb := hkb.size
          have HV1 := hid (over_blk hOb)
          have HV2 := hid (over_blk hQb)
          have HV3 := hid (mem_cells hmb)
          have hcb := Hca.out
          have HSM := hid (show ∀ we, Blk we wb.heap.size (sa.m.cells.map (Value.int .u32)) → Keeps (· < wb.heap.size) wb we → Calls Try.prog 27 #[.slice (some ⟨wb.heap.size, 0, none⟩) sa.m.cells.length sa.m.cells.length, .slice A n cap] we fun e w' => e = .returned (.bool true) ∧ ∃ n, we.drewN n = w' from by
            intro we hb hk
            have hx : SlAt we (fun _ => True) 1 (.slice (some ⟨wb.heap.size, 0, none⟩) sa.m.cells.length sa.m.cells.length) sa.m.cells.length (sa.m.cells.map (Value.int .u32)) := SlAt.of_blkS hb trivial (by simp) (by have := hmb.small; unfold maxLen; omega)
            have hy : SlAt we (fun _ => True) 1 (.slice A n cap) xs.length (xs.map (Value.int .u32)) := by rw [← HN.out]; exact (hSb.keep hk (show ∀ b, b < c → b < wb.heap.size by intro b hb; omega)).mono (fun _ _ => trivial)
            refine (same_any hx hy).mono ?_
            rintro e w' ⟨rfl, h⟩
            exact ⟨by rw [decide_eq_true hcb], h⟩)
          have Hkwb := hid hkwb
          clear hkwb
          clear hkb hmb hOb hQb hSb hcb Hma HOa HQa HSa Hkwa
          go_wp2_with fail
          refine HV1.out.mono ?_
          rintro e wc ⟨rfl, rfl⟩
          go_wp2_with fail
          refine HV2.out.mono ?_
          rintro e wc ⟨rfl, rfl⟩
          go_wp2_with fail
          refine HV3.out.mono ?_
          rintro e wd ⟨rfl, hBd, hkd⟩
          have HKd := hid hkd
          go_wp2_with fail
          refine (HSM.out wd hBd hkd).mono ?_
          rintro e we ⟨rfl, nd, rfl⟩
          have hfin := (Hkwb.out.trans (HKd.out.mono fun b hb => by omega)).drewN nd
          have Hfin := hid hfin
          clear hfin
          clear hBd hkd
          go_wp2_with fail
          exact hR'.out _ _ ⟨rfl, Hfin.out⟩
        · rw [q1]
          have hc9 := q3.trans HCX.out
          have hl9 : (s.step (listT a most)).2.r.log.length = j + 1 := by rw [q4, HLG.out]
          have HC8 := hid hc9
          have HL8 := hid hl9
          have HQ5 := hid q5
          have HQ6 := hid q6
          have HR8 := hid hRa
          have HK8 := hid hkka
          clear hc9 hl9 q5 q6 hRa hkka
          clear q3 q4 hkv2 hka
          go_wp2_with fail
          go_roundw
          case rel => exact ⟨j + 1, _, rest', by go_num, q2, HQ5, HQ6, HL8, HC8, HR8, HK8⟩
          case measure => simp [intOf]; omega
    · rw [q1]
      have hc9 := q3.trans HCX.out
      have hl9 : (s.step (termT a key)).2.r.log.length = j + 1 := by rw [q4, HLG.out]
      have HC8 := hid hc9
      have HL8 := hid hl9
      have HQ5 := hid q5
      have HQ6 := hid q6
      have HR8 := hid hR9
      have HK8 := hid hkk9
      clear hc9 hl9 q5 q6 hR9 hkk9
      clear q3 q4 hkv2 hk9
      go_wp2_with fail
      go_roundw
      case rel => exact ⟨j + 1, _, rest', by go_num, q2, HQ5, HQ6, HL8, HC8, HR8, HK8⟩
      case measure => simp [intOf]; omega
end Go.Proofs.Ytbmgmjfpoepgpaa
