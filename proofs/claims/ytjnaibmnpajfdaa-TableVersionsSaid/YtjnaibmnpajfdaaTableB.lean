/- Layer 11: table.Seen. -/
import Derived.Test.YtjnaibmnpajfdaaTable
import Derived.Test.YtjnaibmnpajfdaaInit
namespace Go.Proofs.Ytjnaibmnpajfdaa
open Go.RowKit

/-- a run, and a row of the caller's own that grew by an append -/
theorem RM.append {w w1 : World} {K : Nat → Prop} {v v' : Value} {r m c : Nat} {s : St} (h : RM w (fun b => K b ∨ v.ownBlock = some b) r m c s) (hg : w.grownBy w1 v.ownBlock)
    (hf : v'.ownBlock = v.ownBlock ∨ ∃ b, v'.ownBlock = some b ∧ w.heap.size ≤ b) (hlt : ∀ b, v'.ownBlock = some b → b < w1.heap.size) :
    RM w1 (fun b => K b ∨ v'.ownBlock = some b) r m c s := by
  have hl := h.lts
  have hk : Keeps (fun b => b < w.heap.size ∧ some b ≠ v.ownBlock) w w1 := ⟨hg.os, hg.tape, hg.output, hg.size, fun b hb => hg.block b hb.1 hb.2⟩
  have h1 := h.keep _ hk (fun b hb hn => ⟨hb, fun e => hn (Or.inr e.symm)⟩)
  obtain ⟨g, hr, ho⟩ := h1.run
  obtain ⟨g0, hr0, ho0⟩ := h.run
  have e : g = g0 := by
    have a := hr.obj.inj (hr0.obj.keep hk ⟨hl.1, fun e => h.kr (Or.inr e.symm)⟩)
    simp only [List.cons.injEq] at a
    exact a.2.1
  subst e
  have key : ∀ b, b < w.heap.size → ¬ (K b ∨ v.ownBlock = some b) → ¬ (K b ∨ v'.ownBlock = some b) := by
    rintro b hb hn (e | e)
    · exact hn (Or.inl e)
    · rcases hf with h2 | ⟨b', h2, h3⟩
      · exact hn (Or.inr (h2 ▸ e))
      · rw [h2] at e; injection e with e; omega
  refine ⟨⟨g, hr, fun k hk' => ⟨(ho k hk').1, (ho k hk').2.1, (ho k hk').2.2.1, key k (own_ne hr0.log k hk') (ho k hk').2.2.2⟩⟩, h1.mem, h.rm, h.rc, key _ hl.1 h.kr, key _ hl.2.1 h.km, key _ hl.2.2 h.kc, ?_⟩
  rintro b (e | e)
  · have := h.lt b (Or.inl e); have := hk.size; omega
  · exact hlt b e

/-- what of K is kept by it -/
theorem keeps_append {w w1 : World} {K : Nat → Prop} {v : Value} (hK : ∀ b, K b → b < w.heap.size) (hn : ∀ b, v.ownBlock = some b → ¬ K b) (hg : w.grownBy w1 v.ownBlock) : Keeps K w w1 :=
  ⟨hg.os, hg.tape, hg.output, hg.size, fun b hb => hg.block b (hK b hb) (fun e => hn b e.symm hb)⟩

structure SeenM where
  doc : Int
  id : Int
  len : Int
def SeenM.cells (x : SeenM) : List Value := [.int .i64 x.doc, .int .u32 x.id, .int .i64 x.len]
theorem SeenM.len3 : ∀ l : List SeenM, (l.flatMap SeenM.cells).length = l.length * 3
  | [] => rfl
  | x :: l => by rw [List.flatMap_cons, List.length_append, SeenM.len3 l, List.length_cons]; simp [SeenM.cells]; omega

def seenT (b v : Int) : Nat → Nat → List SeenM → Tree (List SeenM)
  | 0, _, acc => .ret acc
  | n + 1, d, acc => .load (b + 4 * d + 0) fun born => .off fun o => if o = true ∨ born = 0 ∨ v < born then .ret acc else
      .load (b + 4 * d + 3) fun dead => if dead ≠ 0 ∧ dead ≤ v then seenT b v n (d + 1) acc else
      .load (b + 4 * d + 1) fun id => .load (b + 4 * d + 2) fun len => seenT b v n (d + 1) (acc ++ [⟨d, id, len⟩])

theorem seenT_stop {b v : Int} {n d : Nat} {acc : List SeenM} {s : St} (h : (s.load (b + 4 * d + 0)).2.isOff = true ∨ (s.load (b + 4 * d + 0)).1 = 0 ∨ v < (s.load (b + 4 * d + 0)).1) :
    (seenT b v (n + 1) d acc).exec s = (acc, (s.load (b + 4 * d + 0)).2) := by
  show (if (s.load (b + 4 * d + 0)).2.isOff = true ∨ (s.load (b + 4 * d + 0)).1 = 0 ∨ v < (s.load (b + 4 * d + 0)).1 then Tree.ret acc else _).exec (s.load (b + 4 * d + 0)).2 = _
  rw [if_pos h]; rfl
theorem seenT_dead {b v : Int} {n d : Nat} {acc : List SeenM} {s s1 s2 : St} {x1 x2 : Int} (e1 : s.load (b + 4 * d + 0) = (x1, s1)) (h : ¬ (s1.isOff = true ∨ x1 = 0 ∨ v < x1)) (e2 : s1.load (b + 4 * d + 3) = (x2, s2)) (h2 : x2 ≠ 0 ∧ x2 ≤ v) :
    (seenT b v (n + 1) d acc).exec s = (seenT b v n (d + 1) acc).exec s2 := by
  show (if (s.load (b + 4 * d + 0)).2.isOff = true ∨ (s.load (b + 4 * d + 0)).1 = 0 ∨ v < (s.load (b + 4 * d + 0)).1 then Tree.ret acc else _).exec (s.load (b + 4 * d + 0)).2 = _
  rw [e1, if_neg h]
  show (if (s1.load (b + 4 * d + 3)).1 ≠ 0 ∧ (s1.load (b + 4 * d + 3)).1 ≤ v then seenT b v n (d + 1) acc else _).exec (s1.load (b + 4 * d + 3)).2 = _
  rw [e2, if_pos h2]
theorem seenT_add {b v : Int} {n d : Nat} {acc : List SeenM} {s s1 s2 s3 s4 : St} {x1 x2 x3 x4 : Int} (e1 : s.load (b + 4 * d + 0) = (x1, s1)) (h : ¬ (s1.isOff = true ∨ x1 = 0 ∨ v < x1)) (e2 : s1.load (b + 4 * d + 3) = (x2, s2)) (h2 : ¬ (x2 ≠ 0 ∧ x2 ≤ v))
    (e3 : s2.load (b + 4 * d + 1) = (x3, s3)) (e4 : s3.load (b + 4 * d + 2) = (x4, s4)) :
    (seenT b v (n + 1) d acc).exec s = (seenT b v n (d + 1) (acc ++ [⟨d, x3, x4⟩])).exec s4 := by
  show (if (s.load (b + 4 * d + 0)).2.isOff = true ∨ (s.load (b + 4 * d + 0)).1 = 0 ∨ v < (s.load (b + 4 * d + 0)).1 then Tree.ret acc else _).exec (s.load (b + 4 * d + 0)).2 = _
  rw [e1, if_neg h]
  show (if (s1.load (b + 4 * d + 3)).1 ≠ 0 ∧ (s1.load (b + 4 * d + 3)).1 ≤ v then seenT b v n (d + 1) acc else _).exec (s1.load (b + 4 * d + 3)).2 = _
  rw [e2, if_neg h2]
  show (seenT b v n (d + 1) (acc ++ [⟨d, (s2.load (b + 4 * d + 1)).1, ((s2.load (b + 4 * d + 1)).2.load (b + 4 * d + 2)).1⟩])).exec ((s2.load (b + 4 * d + 1)).2.load (b + 4 * d + 2)).2 = _
  rw [e3, e4]

theorem Try.infoSeen : (Try.prog.info? 105).map (fun i => (i.zero, i.size, i.bytes)) = some (some (.agg #[.int .i64 0, .int .u32 0, .int .i64 0]), 3, 24) := by kernel_rfl

/-- a row of Seens of the caller's own -/
def SeenOwn (w : World) (K : Nat → Prop) (v : Value) (l : List SeenM) : Prop :=
  w.ownsRow 0 105 3 v l.length (l.flatMap SeenM.cells) ∧ ∀ b, v.ownBlock = some b → ¬ K b

set_option maxRecDepth 100000 in
set_option maxHeartbeats 2000000 in
theorem table_seen {w : World} {K : Nat → Prop} {r m c : Nat} {s : St} (h : RM w K r m c s) (b v : Int) (n : Nat) (hb : Small b) (hn : n ≤ 65536) (hv : U32 v) :
    Calls Try.prog 66 #[.pointer (some ⟨r, 0, none⟩), .int .i64 b, .int .i64 n, .int .u32 v] w fun e w' =>
      ∃ vv, e = .returned vv ∧ RM w' (fun b => K b ∨ vv.ownBlock = some b) r m c ((seenT b v n 0 []).exec s).2 ∧ SeenOwn w' K vv ((seenT b v n 0 []).exec s).1 ∧ Keeps K w w' := by
  obtain ⟨b0, b1⟩ := hb
  obtain ⟨v0, v1⟩ := hv
  have H := hid h
  clear h
  generalize hres : (seenT b v n 0 []).exec s = res
  have HRes := hid hres
  clear hres
  refine calls_hide fun R' hR' => ?_
  go_enter Try.func66, Try.ntmps66
  go_wp2_with fail
  go_step3
  go_wp2_with fail
  go_step3
  go_wp2_with fail
  go_loopw [9, 15] (fun out i wr => ∃ (k : Nat) (s' : St) (acc : List SeenM) (A : Option Addr) (cp : Nat), i = .int .i64 k ∧ k ≤ n ∧ acc.length ≤ k ∧ out = .slice A acc.length cp ∧
      RM wr (fun b => K b ∨ (Value.slice A acc.length cp).ownBlock = some b) r m c s' ∧ SeenOwn wr K (.slice A acc.length cp) acc ∧ Keeps K w wr ∧ (seenT b v (n - k) k acc).exec s' = res) (fun _ i _ => n - (intOf i).toNat)
  case atStart => exact ⟨0, s, [], none, 0, rfl, Nat.zero_le _, Nat.zero_le _, rfl, H.out.mono (fun b hb => hb.resolve_right (by intro e; cases e)), ⟨World.ownsRow_nil _ _ _ _, fun b hb => by cases hb⟩, Keeps.refl _ _, HRes.out⟩
  case round =>
    obtain ⟨k, s', acc, A, cp, rfl, hk, hla, rfl, hR, hO, hK, hex⟩ := hrel
    have HR := hid hR
    have HO := hid hO
    have HK := hid hK
    have HLT := hid H.out.lt
    clear hR hO hK
    by_cases hlt : k < n
    · have e : n - k = (n - (k + 1)) + 1 := by omega
      rw [e] at hex
      have HEX := hid hex
      clear hex e
      go_wp2_with fail
      refine (step_load HR.out _).mono ?_
      rintro e w1 ⟨rfl, hr1, hk1⟩
      have hu1 := HR.out.load_u32 (b + 4 * (k : Int))
      generalize hls : s'.load (b + 4 * (k : Int)) = ls at *
      obtain ⟨x1, s1⟩ := ls
      simp only at hr1 hu1
      obtain ⟨u10, u11⟩ := hu1
      have HL1 := hid (show s'.load (b + 4 * (k : Int) + 0) = (x1, s1) by rw [Int.add_zero]; exact hls)
      have HR1 := hid hr1
      have HO1 := hid (show SeenOwn w1 K (.slice A acc.length cp) acc from ⟨own_of_keep HO.out.1 hk1 (fun b hb => Or.inr hb), HO.out.2⟩)
      have HK1 := hid (HK.out.trans (hk1.mono fun b hb => Or.inl hb))
      clear hr1 hk1 hls
      go_wp2_with fail
      refine (step_off HR1.out).mono ?_
      rintro e w2 ⟨rfl, rfl⟩
      by_cases hst : s1.isOff = true ∨ x1 = 0 ∨ v < x1
      · have hfin := HEX.out
        rw [seenT_stop (by rw [HL1.out]; exact hst), HL1.out] at hfin
        have HF := hid hfin
        clear hfin
        have hpost : RM w1 (fun b => K b ∨ (Value.slice A acc.length cp).ownBlock = some b) r m c res.2 ∧ SeenOwn w1 K (.slice A acc.length cp) res.1 ∧ Keeps K w w1 := by
          rw [← HF.out]; exact ⟨HR1.out, HO1.out, HK1.out⟩
        have HPo := hid hpost
        clear hpost
        cases ho : s1.isOff
        · rw [ho] at hst
          have hst' : x1 = 0 ∨ (x1 ≠ 0 ∧ v < x1) := by rcases hst with h | h | h; cases h; exact Or.inl h; exact Or.inr ⟨by omega, h⟩
          clear hst
          rcases hst' with rfl | ⟨h1, h2⟩
          · go_wp2_with fail
            exact hR'.out _ _ ⟨_, rfl, HPo.out⟩
          · have hb : (x1 == 0) = false := by simpa using h1
            clear h1
            go_wp2_with fail
            exact hR'.out _ _ ⟨_, rfl, HPo.out⟩
        · clear hst
          go_wp2_with fail
          exact hR'.out _ _ ⟨_, rfl, HPo.out⟩
      · have ho : s1.isOff = false := by cases h : s1.isOff; rfl; exact absurd (Or.inl h) hst
        have hb1 : (x1 == 0) = false := by simp; exact fun h => hst (Or.inr (Or.inl h))
        have hv1 : ¬ v < x1 := fun h => hst (Or.inr (Or.inr h))
        rw [ho]
        have HST := hid hst
        have Ho := hid ho
        clear hst ho
        go_wp2_with fail
        refine (step_load HR1.out _).mono ?_
        rintro e w3 ⟨rfl, hr3, hk3⟩
        have hu3 := HR1.out.load_u32 (b + 4 * (k : Int) + 3)
        generalize hls : s1.load (b + 4 * (k : Int) + 3) = ls at *
        obtain ⟨x2, s2⟩ := ls
        simp only at hr3 hu3
        obtain ⟨u30, u31⟩ := hu3
        have HL2 := hid hls
        have HR2 := hid hr3
        have HO2 := hid (show SeenOwn w3 K (.slice A acc.length cp) acc from ⟨own_of_keep HO1.out.1 hk3 (fun b hb => Or.inr hb), HO1.out.2⟩)
        have HK2 := hid (HK1.out.trans (hk3.mono fun b hb => Or.inl hb))
        clear hr3 hk3 hls
        by_cases hd : x2 ≠ 0 ∧ x2 ≤ v
        · have hnx := HEX.out
          rw [seenT_dead HL1.out HST.out HL2.out hd] at hnx
          have HN := hid hnx
          obtain ⟨d1, d2⟩ := hd
          have hb2 : (x2 != 0) = true := by simpa using d1
          clear hnx d1
          go_wp2_with fail
          go_roundw
          case rel => exact ⟨k + 1, s2, acc, A, cp, by go_num, by omega, by omega, rfl, HR2.out, HO2.out, HK2.out, HN.out⟩
          case measure => simp [intOf]; omega
        · have hd1 : x2 = 0 ∨ (x2 ≠ 0 ∧ ¬ x2 ≤ v) := by
            rcases Classical.em (x2 = 0) with h | h
            · exact Or.inl h
            · exact Or.inr ⟨h, fun h' => hd ⟨h, h'⟩⟩
          have HD := hid hd
          clear hd
          obtain ⟨i0, hi, hz0, hz1, hz2⟩ := info_parts Try.infoSeen
          rcases hd1 with hd1 | ⟨hd1, hd2⟩
          all_goals
            first | subst hd1 | (have hb2 : (x2 != 0) = true := by simpa using hd1)
            try clear hd1
            go_wp2_with fail
            refine (step_load HR2.out _).mono ?_
            rintro e w4 ⟨rfl, hr4, hk4⟩
            have hu4 := HR2.out.load_u32 (b + 4 * (k : Int) + 1)
            generalize hls : s2.load (b + 4 * (k : Int) + 1) = ls at *
            obtain ⟨x3, s3⟩ := ls
            simp only at hr4 hu4
            obtain ⟨u40, u41⟩ := hu4
            have HL3 := hid hls
            have HR3 := hid hr4
            have HO3 := hid (show SeenOwn w4 K (.slice A acc.length cp) acc from ⟨own_of_keep HO2.out.1 hk4 (fun b hb => Or.inr hb), HO2.out.2⟩)
            have HK3 := hid (HK2.out.trans (hk4.mono fun b hb => Or.inl hb))
            clear hr4 hk4 hls
            go_wp2_with fail
            refine (step_load HR3.out _).mono ?_
            rintro e w5 ⟨rfl, hr5, hk5⟩
            have hu5 := HR3.out.load_u32 (b + 4 * (k : Int) + 2)
            generalize hls : s3.load (b + 4 * (k : Int) + 2) = ls at *
            obtain ⟨x4, s4⟩ := ls
            simp only at hr5 hu5
            obtain ⟨u50, u51⟩ := hu5
            have hnx := HEX.out
            rw [seenT_add HL1.out HST.out HL2.out HD.out HL3.out hls] at hnx
            have HN := hid hnx
            have HR4 := hid hr5
            have HO4 := hid (show SeenOwn w5 K (.slice A acc.length cp) acc from ⟨own_of_keep HO3.out.1 hk5 (fun b hb => Or.inr hb), HO3.out.2⟩)
            have HK4 := hid (HK3.out.trans (hk5.mono fun b hb => Or.inl hb))
            clear hr5 hk5 hls hnx
            go_wp2_with (at_builtin; refine wpList_append_x rfl _ _ 68 rfl 105 i0 (.agg #[.int .i64 0, .int .u32 0, .int .i64 0]) 3 24 Try.underlying68 hi hz0 hz1 hz2 rfl (by decide) (.slice A acc.length cp) acc.length (acc.flatMap SeenM.cells) rfl (HO4.out.1.alloc _) ⟨w5.heap.size, 0, none⟩ 1 1 [.int .i64 k, .int .u32 x3, .int .i64 x4] rfl rfl ?_ ?_ ?_ ?_ ?_)
            · intro j u hj
              rcases j with _ | _ | _ | j
              · simpa [Addr.add] using hj
              · simpa [Addr.add] using hj
              · simpa [Addr.add] using hj
              · simp at hj
            · intro u hu; simp at hu; rcases hu with rfl | rfl | rfl <;> rfl
            · unfold maxLen; omega
            · omega
            · intro v' w6 hown' hgr hfr
              obtain ⟨A', cp', hv'⟩ : ∃ A' cp', v' = .slice A' (acc.length + 1) cp' := by
                rcases hown'.2 with ⟨_, h⟩ | ⟨g, cap, _, h, _⟩
                · omega
                · exact ⟨_, _, h⟩
              subst hv'
              have hal := HR4.out.alloc (.cells #[.int .i64 k, .int .u32 x3, .int .i64 x4] 105)
              have hR6 := hal.append hgr (by rw [World.size_alloc]; exact hfr) (fun b hb => (hown'.lt b hb).2)
              have hK6 : Keeps K w w6 := (HK4.out.alloc (fun b hb => by have := HLT.out b hb; have := HK4.out.size; omega) _).trans (keeps_append (fun b hb => hal.lt b (Or.inl hb)) HO4.out.2 hgr)
              have hO6 : SeenOwn w6 K (.slice A' (acc.length + 1) cp') (acc ++ [⟨k, x3, x4⟩]) := by
                refine ⟨?_, ?_⟩
                · simpa [List.flatMap_append, SeenM.cells] using hown'
                · intro b hb hKb
                  rcases hfr with h | ⟨b', h, h2⟩
                  · exact HO4.out.2 b (h ▸ hb) hKb
                  · rw [h] at hb; injection hb with hb
                    have := HLT.out b hKb; have := HK4.out.size; omega
              have HR6 := hid hR6
              have HK6 := hid hK6
              have HO6 := hid hO6
              clear hown' hgr hfr hal hR6 hK6 hO6 hi hz0 hz1 hz2
              go_wp2_with fail
              go_roundw
              case rel => exact ⟨k + 1, s4, acc ++ [⟨k, x3, x4⟩], A', cp', by go_num, by omega, by simp; omega, by simp, by simpa using HR6.out, by simpa using HO6.out, HK6.out, HN.out⟩
              case measure => simp [intOf]; omega
    · have hkn : n - k = 0 := by omega
      rw [hkn] at hex
      have hfin : (acc, s') = res := hex
      have HF := hid hfin
      clear hex hkn hfin
      have hpost : RM wr (fun b => K b ∨ (Value.slice A acc.length cp).ownBlock = some b) r m c res.2 ∧ SeenOwn wr K (.slice A acc.length cp) res.1 ∧ Keeps K w wr := by
        rw [← HF.out]; exact ⟨HR.out, HO.out, HK.out⟩
      have HPo := hid hpost
      clear hpost
      go_wp2_with fail
      exact hR'.out _ _ ⟨_, rfl, HPo.out⟩
end Go.Proofs.Ytjnaibmnpajfdaa
