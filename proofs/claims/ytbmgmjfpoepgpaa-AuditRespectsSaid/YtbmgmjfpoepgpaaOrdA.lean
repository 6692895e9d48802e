/- Histories; audit.Order's comparison; audit.Order. -/
import Derived.Test.YtbmgmjfpoepgpaaSortG
import Derived.Test.YtbmgmjfpoepgpaaLaw
namespace Go.Proofs.Ytbmgmjfpoepgpaa
open Go.RowKit

/-- an operation of a history: its cells, and its three steps -/
structure DoneM where
  pre : List Value
  inv : Int
  pt : Int
  resp : Int
  post : List Value
  hpre : pre.length = 8
  hpost : post.length = 2
def DoneM.cells (d : DoneM) : List Value := d.pre ++ (.int .i64 d.inv :: .int .i64 d.pt :: .int .i64 d.resp :: d.post)
theorem DoneM.len (d : DoneM) : d.cells.length = 13 := by simp [DoneM.cells, d.hpre, d.hpost]

theorem flat_at {α : Type} (f : α → List Value) (size : Nat) (hf : ∀ x, (f x).length = size) : ∀ (l : List α) (i j : Nat) (x : α) (u : Value), l[i]? = some x → (f x)[j]? = some u → (l.flatMap f)[i * size + j]? = some u
  | [], i, j, x, u, h, _ => by simp at h
  | y :: l, 0, j, x, u, h, h2 => by
    simp at h; subst h
    rw [List.flatMap_cons, Nat.zero_mul, Nat.zero_add, List.getElem?_append_left (List.getElem?_eq_some_iff.1 h2).1]; exact h2
  | y :: l, i + 1, j, x, u, h, h2 => by
    rw [List.flatMap_cons, List.getElem?_append_right (by rw [hf, Nat.succ_mul]; omega), hf]
    have e : (i + 1) * size + j - size = i * size + j := by rw [Nat.succ_mul]; omega
    rw [e]
    exact flat_at f size hf l i j x u (by simpa using h) h2

/-- a history lies in memory -/
def HistAt (w : World) (K : Nat → Prop) (v : Value) (l : List DoneM) : Prop := SlAt w K 13 v l.length (l.flatMap DoneM.cells)
theorem HistAt.keep {w w' : World} {K L : Nat → Prop} {v : Value} {l : List DoneM} (h : HistAt w K v l) (k : Keeps L w w') (hL : ∀ b, K b → L b) : HistAt w' K v l := SlAt.keep h k hL
theorem HistAt.get {w : World} {K : Nat → Prop} {v : Value} {l : List DoneM} (h : HistAt w K v l) {i : Nat} {d : DoneM} (hi : l[i]? = some d) :
    ∃ b off cap, v = .slice (some ⟨b, off, none⟩) l.length cap ∧ l.length ≤ cap ∧ cap ≤ maxLen ∧ K b ∧ w.cell? ⟨b, off + i * 13 + 8, none⟩ = some (.int .i64 d.inv) ∧ w.cell? ⟨b, off + i * 13 + 9, none⟩ = some (.int .i64 d.pt) ∧
      w.cell? ⟨b, off + i * 13 + 10, none⟩ = some (.int .i64 d.resp) := by
  obtain ⟨A, cap, h1, h2, h3, h4, h5⟩ := h
  have hlt := (List.getElem?_eq_some_iff.1 hi).1
  obtain ⟨b, off, e, hb, hc⟩ := h5 (by omega)
  subst e
  have key : ∀ j u, d.cells[j]? = some u → w.cell? ⟨b, off + i * 13 + j, none⟩ = some u := fun j u hj => by
    rw [Nat.add_assoc]; exact hc _ _ (flat_at DoneM.cells 13 DoneM.len l i j d u hi hj)
  refine ⟨b, off, cap, h1, h2, h3, hb, key 8 _ ?_, key 9 _ ?_, key 10 _ ?_⟩ <;>
    (unfold DoneM.cells; rw [List.getElem?_append_right (by rw [d.hpre]; omega), d.hpre]; rfl)
theorem HistAt.form {w : World} {K : Nat → Prop} {v : Value} {l : List DoneM} (h : HistAt w K v l) : ∃ A cap, v = .slice A l.length cap ∧ l.length ≤ cap ∧ cap ≤ maxLen := by
  obtain ⟨A, cap, h1, h2, h3, _⟩ := h
  exact ⟨A, cap, h1, h2, h3⟩
def keyOf (l : List DoneM) (i : Nat) : Int := match l[i]? with | some d => d.pt | none => 0

set_option maxRecDepth 100000 in
set_option maxHeartbeats 1000000 in
theorem cmp_call {W : World} {K : Nat → Prop} {v : Value} {l : List DoneM} {lb i j : Nat} (h : HistAt W K v l) (hb : Blk W lb [v]) (hi : i < l.length) (hj : j < l.length) :
    Calls Try.prog 35 #[.int .i64 (i : Int), .int .i64 (j : Int), .pointer (some ⟨lb, 0, none⟩)] W fun e w' => e = .returned (.int .i64 (cmpv (keyOf l) i j)) ∧ ∃ q, w' = W.drewN q := by
  obtain ⟨d1, hd1⟩ : ∃ d, l[i]? = some d := ⟨_, List.getElem?_eq_getElem hi⟩
  obtain ⟨d2, hd2⟩ : ∃ d, l[j]? = some d := ⟨_, List.getElem?_eq_getElem hj⟩
  have hv : cmpv (keyOf l) i j = if d1.pt < d2.pt then -1 else if d2.pt < d1.pt then 1 else 0 := by simp [cmpv, keyOf, hd1, hd2]
  rw [hv]
  clear hv
  obtain ⟨b, off, cap, rfl, h1, h2, -, -, x1, -⟩ := h.get hd1
  obtain ⟨b', off', cap', e, -, -, -, -, x2, -⟩ := h.get hd2
  injection e with e1 _ e2
  injection e1 with e1
  injection e1 with e1 e3
  subst e1 e2 e3
  unfold maxLen at h2
  have c0 := hb.cell 0
  simp only [List.getElem?_cons_zero] at c0
  have i1 : (i : Int) < (l.length : Int) := by omega
  have i2 : (j : Int) < (l.length : Int) := by omega
  generalize d1.pt = X at *
  generalize d2.pt = Y at *
  generalize l.length = n at *
  clear h hb hd1 hd2
  refine calls_hide fun R' hR' => ?_
  go_enter Try.func35, Try.ntmps35
  by_cases hxy : X < Y
  · rw [if_pos hxy] at hR'
    go_wp2_with fail
    go_quiet (fail)
    go_wp2_with fail
    exact hR'.out _ _ ⟨rfl, nq, rfl⟩
  · rw [if_neg hxy] at hR'
    by_cases hyx : Y < X
    · rw [if_pos hyx] at hR'
      have hg : X > Y := hyx
      go_wp2_with fail
      go_quiet (fail)
      go_wp2_with fail
      exact hR'.out _ _ ⟨rfl, nq, rfl⟩
    · rw [if_neg hyx] at hR'
      have hg : ¬ X > Y := hyx
      go_wp2_with fail
      go_quiet (fail)
      go_wp2_with fail
      exact hR'.out _ _ ⟨rfl, nq, rfl⟩

/-- a row of ints of the caller's own -/
def IntRow (w : World) (K : Nat → Prop) (g : Value) (xs : List Nat) : Prop := w.ownsRow 0 3 1 g xs.length (xs.map iv) ∧ ∀ b, g.ownBlock = some b → ¬ K b
theorem IntRow.nil (w : World) (K : Nat → Prop) : IntRow w K (.slice none 0 0) [] := ⟨⟨rfl, Or.inl ⟨rfl, rfl⟩⟩, fun b hb => (by cases hb)⟩
theorem IntRow.form {w : World} {K : Nat → Prop} {g : Value} {xs : List Nat} (h : IntRow w K g xs) : ∃ A cp, g = .slice A xs.length cp ∧ xs.length ≤ cp ∧ cp ≤ maxLen := by
  rcases h.1.2 with ⟨h1, h2⟩ | ⟨b, cap, _, h1, _, _, h3, h4, _⟩
  · exact ⟨_, _, by rw [h1, h2], by omega, Nat.zero_le _⟩
  · exact ⟨_, _, h1, h3, h4⟩
theorem IntRow.row {w : World} {K : Nat → Prop} {g : Value} {xs : List Nat} (h : IntRow w K g xs) (hn : 0 < xs.length) : ∃ b cp, g = .slice (some ⟨b, 0, none⟩) xs.length cp ∧ Row w b xs ∧ ¬ K b ∧ xs.length ≤ cp ∧ cp ≤ maxLen := by
  rcases h.1.2 with ⟨h1, h2⟩ | ⟨b, cap, cur, h1, _, h3, h4, h5, h6, h7⟩
  · omega
  · refine ⟨b, cap, h1, ⟨cur.toList.drop (xs.length * 1), 3, ?_⟩, h.2 b (by rw [h1]; rfl), h4, h5⟩
    rw [h3, ← h7, List.take_append_drop]
theorem IntRow.keep {w w' : World} {K L : Nat → Prop} {g : Value} {xs : List Nat} (h : IntRow w K g xs) (k : Keeps L w w') (hL : ∀ b, g.ownBlock = some b → L b) : IntRow w' K g xs := by
  refine ⟨⟨h.1.1, ?_⟩, h.2⟩
  rcases h.1.2 with ⟨h1, h2⟩ | ⟨b, cap, cur, h1, h2, h3, h4⟩
  · exact Or.inl ⟨h1, h2⟩
  · exact Or.inr ⟨b, cap, cur, h1, h2, (k.block b (hL b (by rw [h1]; rfl))).trans h3, h4⟩
theorem IntRow.lt {w : World} {K : Nat → Prop} {g : Value} {xs : List Nat} (h : IntRow w K g xs) (b : Nat) (hb : g.ownBlock = some b) : b < w.heap.size := by
  rcases h.1.2 with ⟨h1, h2⟩ | ⟨b', cap, cur, h1, h2, h3, h4⟩
  · rw [h1] at hb; cases hb
  · rw [h1] at hb; injection hb with hb
    subst hb
    exact (Array.getElem?_eq_some_iff.1 h3).1
theorem IntRow.slAt {w : World} {K L : Nat → Prop} {g : Value} {xs : List Nat} (h : IntRow w K g xs) (hL : ∀ b, g.ownBlock = some b → L b) : SlAt w L 1 g xs.length (xs.map iv) := by
  rcases Nat.eq_zero_or_pos xs.length with h0 | h0
  · obtain ⟨A, cp, e, h1, h2⟩ := h.form
    exact ⟨A, cp, e, h1, h2, by simp, fun hn => by omega⟩
  · obtain ⟨b, cp, e, ⟨sp, hr⟩, hk, h1, h2⟩ := h.row h0
    refine ⟨_, cp, e, h1, h2, by simp, fun _ => ⟨b, 0, rfl, hL b (by rw [e]; rfl), fun j u hu => ?_⟩⟩
    rw [Nat.zero_add, hr.cell, List.getElem?_append_left (List.getElem?_eq_some_iff.1 hu).1]; exact hu
theorem Try.infoI : (Try.prog.info? 3).map (fun i => (i.zero, i.size, i.bytes)) = some (some (.int .i64 0), 1, 8) := by kernel_rfl
theorem info_partsI {P : Program} {t : TypeId} {z : Value} {a b : Nat} (h : (P.info? t).map (fun i => (i.zero, i.size, i.bytes)) = some (some z, a, b)) : ∃ i, P.info? t = some i ∧ i.zero = some z ∧ i.size = a ∧ i.bytes = b := by
  cases hi : P.info? t with
  | none => rw [hi] at h; cases h
  | some i => rw [hi] at h; simp at h; exact ⟨i, rfl, h.1, h.2.1, h.2.2⟩

set_option maxRecDepth 100000 in
set_option maxHeartbeats 400000 in
theorem insertion_none (w : World) (v f : Value) :
    Calls Try.prog 56 #[v, .int .i64 0, .int .i64 0, f] w fun en w' => en = .returned (.tuple #[]) ∧ w' = w := by
  refine calls_hide fun R' hR' => ?_
  go_enter Try.func56, Try.ntmps56
  go_wp2_with fail
  go_loopw [8] (fun vi wr => vi = .int .i64 1 ∧ wr = w) (fun _ _ => 0)
  case atStart => exact ⟨rfl, rfl⟩
  case round =>
    obtain ⟨rfl, rfl⟩ := hrel
    go_wp2_with fail
    go_end0
    exact hR'.out _ _ ⟨rfl, rfl⟩
set_option maxRecDepth 100000 in
set_option maxHeartbeats 400000 in
theorem stable_none (w : World) (v f : Value) :
    Calls Try.prog 49 #[v, .int .i64 0, f] w fun en w' => en = .returned (.tuple #[]) ∧ w' = w := by
  refine calls_hide fun R' hR' => ?_
  go_enter Try.func49, Try.ntmps49
  go_wp2_with fail
  go_loopw [7, 8] (fun va vb wr => va = .int .i64 0 ∧ vb = .int .i64 20 ∧ wr = w) (fun _ _ _ => 0)
  case atStart => exact ⟨rfl, rfl, rfl⟩
  case round =>
    obtain ⟨rfl, rfl, rfl⟩ := hrel
    go_wp2_with fail
    refine (insertion_none _ _ _).mono ?_
    rintro e w' ⟨rfl, rfl⟩
    go_wp2_with fail
    go_loopw [6] (fun va wr => va = .int .i64 20 ∧ wr = w') (fun _ _ => 0)
    case atStart => exact ⟨rfl, rfl⟩
    case round =>
      obtain ⟨rfl, rfl⟩ := hrel
      go_wp2_with fail
      go_end0
      exact hR'.out _ _ ⟨rfl, rfl⟩
set_option maxRecDepth 100000 in
set_option maxHeartbeats 400000 in
theorem sort_none (w : World) (G : Option Addr) (cap : Nat) (f : Value) :
    Calls Try.prog 34 #[.slice G 0 cap, f] w fun en w' => en = .returned (.tuple #[]) ∧ w' = w := by
  refine calls_hide fun R' hR' => ?_
  go_enter Try.func34, Try.ntmps34
  go_wp2_with fail
  refine (stable_none _ _ _).mono ?_
  rintro e w' ⟨rfl, rfl⟩
  go_wp2_with fail
  go_end0
  exact hR'.out _ _ ⟨rfl, rfl⟩

set_option maxRecDepth 100000 in
set_option maxHeartbeats 2000000 in
theorem order_call {w : World} {K : Nat → Prop} {v : Value} {l : List DoneM} (h : HistAt w K v l) (hK : ∀ b, K b → b < w.heap.size) (hl : l.length ≤ 1000) :
    Calls Try.prog 10 #[v] w fun e w' => ∃ g, e = .returned g ∧ SlAt w' (· < w'.heap.size) 1 g l.length ((srt (keyOf l) 0 l.length).map iv) ∧ Keeps (· < w.heap.size) w w' := by
  obtain ⟨A, cap, rfl, h1, h2⟩ := h.form
  unfold maxLen at h2
  have HH := hid h
  have HK := hid hK
  clear h hK
  refine calls_hide fun R' hR' => ?_
  go_enter Try.func10, Try.ntmps10
  go_wp2_with fail
  have hb0 : Blk (w.alloc (.cells #[.slice A l.length cap] 22)) w.heap.size [.slice A l.length cap] := Blk.new w _ _
  have hk0 : Keeps (· < w.heap.size) w (w.alloc (.cells #[.slice A l.length cap] 22)) := (Keeps.refl _ _).alloc (fun b hb => hb) _
  have hs0 : (w.alloc (.cells #[.slice A l.length cap] 22)).heap.size = w.heap.size + 1 := by simp
  generalize hw1 : w.alloc (.cells #[.slice A l.length cap] 22) = w1 at *
  generalize hB : w.heap.size = B at *
  have HB := hid (And.intro hb0 (And.intro hk0 (And.intro hs0 hB)))
  clear hb0 hk0 hs0 hB hw1
  go_loopw [3, 7] (fun g vi wr => ∃ (k : Nat) (G : Option Addr) (cp : Nat), g = .slice G k cp ∧ vi = .int .i64 (k : Int) ∧ k ≤ l.length ∧ Hid (IntRow wr (· < B + 1) (.slice G k cp) (List.range' 0 k) ∧ Keeps (· < B + 1) w1 wr)) (fun _ i _ => l.length - (intOf i).toNat)
  case atStart => exact ⟨0, none, 0, rfl, rfl, Nat.zero_le _, hid ⟨IntRow.nil _ _, Keeps.refl _ _⟩⟩
  case round =>
    obtain ⟨k, G, cp, rfl, rfl, hk, HI⟩ := hrel
    by_cases hlt : k < l.length
    · have z0 : (k : Int) < (l.length : Int) := by omega
      obtain ⟨i0, hi, hz0, hz1, hz2⟩ := info_partsI Try.infoI
      have HLT := hid hlt
      have hown : Hid (wr.ownsRow 0 3 1 (.slice G k cp) k ((List.range' 0 k).map iv)) := hid (by have := HI.out.1.1; rwa [List.length_range'] at this)
      go_wp2_with (at_builtin; refine wpList_append_x rfl _ _ 25 rfl 3 i0 (.int .i64 0) 1 8 Try.underlying25 hi hz0 hz1 hz2 rfl (by decide) (.slice G k cp) k ((List.range' 0 k).map iv) rfl (hown.out.alloc _) ⟨wr.heap.size, 0, none⟩ 1 1 [.int .i64 (k : Int)] rfl rfl ?_ ?_ ?_ ?_ ?_)
      · rfl
      · unfold maxLen; omega
      · omega
      · intro v' w6 hown' hgr hfr
        obtain ⟨A', cp', hv'⟩ : ∃ A' cp', v' = .slice A' (k + 1) cp' := by
          rcases hown'.2 with ⟨_, h⟩ | ⟨g, cap, _, h, _⟩
          · omega
          · exact ⟨_, _, h⟩
        subst hv'
        have HN := hid (show IntRow w6 (· < B + 1) (.slice A' (k + 1) cp') (List.range' 0 (k + 1)) ∧ Keeps (· < B + 1) w1 w6 from by
          obtain ⟨hi, hk⟩ := HI.out
          have hs := hk.size
          obtain ⟨-, -, hs1, -⟩ := HB.out
          have hka : Keeps (· < B + 1) w1 (wr.alloc (.cells #[.int .i64 (k : Int)] 3)) := hk.alloc (fun b hb => by omega) _
          refine ⟨⟨?_, ?_⟩, hka.grown (fun b hb => by simp; omega) hgr (fun b hb => hi.2 b hb)⟩
          · rw [List.length_range', range'_succ', List.map_append, Nat.zero_add]
            exact hown'
          · intro b hb hKb
            rcases hfr with h | ⟨b', h, h2⟩
            · exact hi.2 b (h ▸ hb) hKb
            · rw [h] at hb; injection hb with hb
              (try simp at h2); omega)
        clear hown' hgr hfr hown HI hi hz0 hz1 hz2
        go_wp2_with fail
        go_roundw
        case rel => exact ⟨k + 1, A', cp', by first | rfl | go_num, by first | rfl | go_num, by have := HLT.out; omega, HN⟩
        case measure => simp [intOf]; omega
    · have hk' : k = l.length := by omega
      subst hk'
      have z0 : ¬ (l.length : Int) < (l.length : Int) := by omega
      go_wp2_with fail
      have hsort : Calls Try.prog 34 #[.slice G l.length cp, .func (.func 35) #[] #[.pointer (some ⟨B, 0, none⟩)]] wr fun en w' =>
          en = .returned (.tuple #[]) ∧ SlAt w' (· < w'.heap.size) 1 (.slice G l.length cp) l.length ((srt (keyOf l) 0 l.length).map iv) ∧ Keeps (· < B) w w' := by
        obtain ⟨hb0, hk0, hs0, hB⟩ := HB.out
        obtain ⟨hi, hk1⟩ := HI.out
        have hkw : Keeps (· < B) w wr := hk0.trans (hk1.mono fun b hb => by omega)
        rcases Nat.eq_zero_or_pos l.length with h0 | h0
        · obtain ⟨A', cp', e, h3, h4⟩ := hi.form
          rw [List.length_range'] at e
          injection e with _ _ e3
          subst e3
          rw [List.length_range'] at h3
          rw [h0] at h3 ⊢
          refine (sort_none wr G cp _).mono ?_
          rintro en w' ⟨rfl, rfl⟩
          exact ⟨rfl, ⟨_, _, rfl, h3, h4, by simp [srt_length], fun hn => by omega⟩, hkw⟩
        · obtain ⟨b, cp', e, hr, hkb, hc1, hc2⟩ := hi.row (by simpa using h0)
          injection e with e1 e2 e3
          subst e1 e3
          rw [List.length_range'] at hc1
          refine (sort_stable (w := wr) (K := fun x => x < B + 1) (b := b) (n := l.length) (cap := cp) (lb := B) (key := keyOf l) hr hkb ?_ (by omega) hc1 hc2).mono ?_
          · intro W hW i j hi' hj'
            have hkW : Keeps (· < B + 1) w1 W := hk1.trans hW
            exact cmp_call (K := fun x => x < B) (HH.out.keep (hk0.trans (hkW.mono fun b hb => by omega)) (fun b hb => by have := HK.out b hb; omega) |>.mono (fun b hb => by have := HK.out b hb; omega)) (hb0.keep hkW (by omega)) hi' hj'
          · rintro en w' ⟨rfl, hr2, hk2⟩
            refine ⟨rfl, ⟨_, _, rfl, hc1, hc2, by simp [srt_length], fun _ => ⟨b, 0, rfl, hr2.lt, fun j u hu => ?_⟩⟩, hkw.trans (hk2.mono fun b hb => by omega)⟩
            obtain ⟨sp, hbk⟩ := hr2
            rw [Nat.zero_add, hbk.cell, List.getElem?_append_left (List.getElem?_eq_some_iff.1 hu).1]; exact hu
      clear HI HH
      refine hsort.mono ?_
      rintro en w' ⟨rfl, hs, hk⟩
      have HN := hid (And.intro hs hk)
      clear hs hk hsort
      go_wp2_with fail
      have hB := HB.out.2.2.2
      refine hR'.out _ _ ⟨_, rfl, HN.out.1, ?_⟩
      exact HN.out.2
end Go.Proofs.Ytbmgmjfpoepgpaa
