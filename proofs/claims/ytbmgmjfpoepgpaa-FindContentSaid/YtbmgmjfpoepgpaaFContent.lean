/- FindContent: the closure, the walk. -/
import Derived.Test.YtbmgmjfpoepgpaaFLists
import Derived.StillTailTactics
namespace Go.Proofs.Ytbmgmjfpoepgpaa
open Go.RowKit

/-- what a reader of a content does for one key -/
def contT (a : Int) (key : ByteArray) : Tree (List EntM × List EntM) := (docsT a).bind fun n => (termT a key).bind fun l => (listT l n).bind fun al => (listT l (n.tdiv 2)).bind fun so => .ret (al, so)
theorem cost_cont (a : Int) (key : ByteArray) : (contT a key).Cost (fun _ c' => c' ≤ 0 + 43381) 0 := by
  unfold contT
  refine Tree.cost_bind _ _ _ (Tree.cost_mono (fun n c1 h1 => ?_) _ _ (cost_docs a 0))
  refine Tree.cost_bind _ _ _ (Tree.cost_mono (fun l c2 h2 => ?_) _ _ (cost_term a key c1))
  refine Tree.cost_bind _ _ _ (Tree.cost_mono (fun al c3 h3 => ?_) _ _ (cost_list l n c2))
  refine Tree.cost_bind _ _ _ (Tree.cost_mono (fun so c4 h4 => ?_) _ _ (cost_list l (n.tdiv 2) c3))
  show c4 ≤ _
  omega
theorem all_cont {rn : Nat} {rc : List Int} {ls : List LstM} (hrc : rc.length = 4 * rn) (hM : MayL rn (outP ls ls.length)) (hk : ∀ l ∈ ls, l.key.size ≤ 17) {i : Nat} {l : LstM} (h : ls[i]? = some l) :
    (contT ((cellsR ls).length : Int) l.key).ReadsN (allC rn rc ls) 43381 fun y => y = (belowL l.ents rn, belowL l.ents ((rn : Int) / 2)) := by
  have hrn := hM.1
  refine readsN_of ?_ (cost_cont _ _)
  unfold contT
  refine reads_bind (reads_mono (reads_docs all_docs) fun n hn => ?_)
  subst hn
  obtain ⟨v, k, h1, _, rfl⟩ := all_term hrc hM hk h
  refine reads_bind ⟨_, k, h1, ?_⟩
  refine reads_bind (reads_mono (reads_list (out_may hM h).2.1 rn ⟨by omega, by omega⟩ (all_list hrc h)) fun x hx => ?_)
  have e2 : (rn : Int).tdiv 2 = (rn : Int) / 2 := Int.tdiv_eq_ediv_of_nonneg (by omega)
  rw [e2]
  refine reads_bind (reads_mono (reads_list (out_may hM h).2.1 ((rn : Int) / 2) ⟨by omega, by omega⟩ (all_list hrc h)) fun y hy => ?_)
  exact reads_ret (by rw [hx, hy])
theorem below_all {es : List EntM} {rn : Nat} (h : ∀ (k : Nat) (e : EntM), es[k]? = some e → e.doc < rn) : belowL es rn = es := by
  unfold belowL
  refine List.filter_eq_self.2 fun e he => ?_
  obtain ⟨k, hk, rfl⟩ := List.getElem_of_mem he
  exact decide_eq_true (h k _ (List.getElem?_eq_getElem hk))
theorem below_take {es : List EntM} (hM : MayE es) (most : Int) : belowL es most = es.take (belowL es most).length ∧ (belowL es most).length ≤ es.length := by
  have hle : (belowL es most).length ≤ es.length := List.length_filter_le _ _
  refine ⟨?_, hle⟩
  -- the first one that is not below
  obtain ⟨j, hj, h1, h2⟩ : ∃ j, j ≤ es.length ∧ (∀ k, k < j → docAt es k < most) ∧ (j < es.length → most ≤ docAt es j) := by
    have key : ∀ n, n ≤ es.length → (∀ k, k < n → docAt es k < most) ∨ ∃ j, j ≤ es.length ∧ (∀ k, k < j → docAt es k < most) ∧ (j < es.length → most ≤ docAt es j) := by
      intro n
      induction n with
      | zero => exact fun _ => Or.inl fun k hk => by omega
      | succ n ih =>
        intro hn
        rcases ih (by omega) with h | h
        · by_cases hd : docAt es n < most
          · refine Or.inl fun k hk => ?_
            by_cases e : k = n
            · subst e; exact hd
            · exact h k (by omega)
          · exact Or.inr ⟨n, by omega, h, fun _ => by omega⟩
        · exact Or.inr h
    rcases key es.length (Nat.le_refl _) with h | h
    · exact ⟨es.length, Nat.le_refl _, h, fun h => by omega⟩
    · exact h
  have e := filter_take (es := es) (most := most) (j := j) (fun k hk _ => h1 k hk) (fun k hk hl => by
    by_cases e : j = k
    · subst e; exact h2 hl
    · have := h2 (by omega)
      have := hM.up j k (by omega) hl
      omega)
  rw [← e, List.length_take, Nat.min_eq_left hj]

/-! ### what a program of loads ends with, where cells are cells -/
def Tree.Ends {α : Type} (P : α → Prop) : Tree α → Prop
  | .ret x => P x
  | .load _ k => ∀ v, U32 v → Ends P (k v)
  | .store _ _ k => Ends P k
  | .off k => ∀ o, Ends P (k o)
theorem ends_bind {α β : Type} {P : β → Prop} (t : Tree α) (f : α → Tree β) (h : t.Ends fun x => (f x).Ends P) : (t.bind f).Ends P := by
  induction t with
  | ret x => exact h
  | load a k ih => exact fun v hv => ih v (h v hv)
  | store a v k ih => exact ih h
  | off k ih => exact fun o => ih o (h o)
theorem ends_all {α : Type} {P : α → Prop} (h : ∀ x, P x) (t : Tree α) : t.Ends P := by
  induction t with
  | ret x => exact h x
  | load a k ih => exact fun v _ => ih v
  | store a v k ih => exact ih
  | off k ih => exact fun o => ih o
def SU (s : St) : Prop := (∀ x ∈ s.r.log, U32 x) ∧ (∀ x ∈ s.m.cells, U32 x)
theorem u32_zero : U32 0 := u32_of ⟨by decide, by decide⟩
theorem getD_u32 {l : List Int} (h : ∀ x ∈ l, U32 x) (i : Nat) : U32 (l.getD i 0) := by
  rw [List.getD_eq_getElem?_getD]
  cases e : l[i]? with
  | none => exact u32_zero
  | some x => exact h x (List.mem_of_getElem? e)
theorem made_u32 {r : RunS} {v e : Int} (h : ∀ x ∈ r.log, U32 x) (hv : U32 v) : ∀ x ∈ (r.made v e).log, U32 x := by
  intro x hx
  unfold RunS.made at hx
  by_cases he : e = 0
  · rw [if_pos he] at hx
    rcases List.mem_append.1 hx with hx | hx
    · exact h x hx
    · rcases List.mem_singleton.1 hx with rfl
      exact hv
  · rw [if_neg he] at hx
    exact h x hx
theorem SU.load {s : St} (h : SU s) (a : Int) : U32 (s.load a).1 ∧ SU (s.load a).2 := by
  have hv : U32 (if s.m.inb a then s.m.at a else 0) := by
    split
    · exact getD_u32 h.2 _
    · exact u32_zero
  have hcl : (s.m.load a).cells = s.m.cells := by unfold MemS.load; split <;> rfl
  have hlg : s.r.turn.log = s.r.log := by unfold RunS.turn; split <;> (try split) <;> (try split) <;> rfl
  have hlog : ∀ x ∈ s.r.turn.log, U32 x := by rw [hlg]; exact h.1
  by_cases hk : s.r.turnK = 2
  · have e : s.load a = (if s.m.inb a then s.m.at a else 0, ⟨s.r.turn.made (if s.m.inb a then s.m.at a else 0) (if s.m.inb a then 0 else 2), s.m.load a⟩) := by unfold St.load; rw [if_pos hk]
    rw [e]
    exact ⟨hv, made_u32 hlog hv, fun x hx => h.2 x (by rw [← hcl]; exact hx)⟩
  · by_cases hk1 : s.r.turnK = 1
    · have e : s.load a = (s.r.log.getD s.r.pos 0, ⟨s.r.turn, s.m⟩) := by unfold St.load; rw [if_neg hk, if_pos hk1]
      rw [e]
      exact ⟨getD_u32 h.1 _, hlog, h.2⟩
    · have e : s.load a = (0, ⟨s.r.turn, s.m⟩) := by unfold St.load; rw [if_neg hk, if_neg hk1]
      rw [e]
      exact ⟨u32_zero, hlog, h.2⟩
/-- no stores -/
def Tree.NoSt {α : Type} : Tree α → Prop
  | .ret _ => True
  | .load _ k => ∀ v, NoSt (k v)
  | .store _ _ _ => False
  | .off k => ∀ o, NoSt (k o)
theorem noSt_of {α : Type} {Q : α → Nat → Prop} (t : Tree α) : ∀ c, t.Cost Q c → t.NoSt := by
  induction t with
  | ret x => exact fun _ _ => trivial
  | load a k ih => exact fun c h v => ih v _ (h v)
  | store a v k ih => exact fun c h => h.elim
  | off k ih => exact fun c h o => ih o _ (h o)
theorem exec_ends {α : Type} {P : α → Prop} (t : Tree α) : ∀ s, SU s → t.NoSt → t.Ends P → P (t.exec s).1 := by
  induction t with
  | ret x => exact fun s _ _ h => h
  | load a k ih => exact fun s hs hn h => ih _ _ (hs.load a).2 (hn _) (h _ (hs.load a).1)
  | store a v k ih => exact fun s hs hn => hn.elim
  | off k ih => exact fun s hs hn h => ih _ _ hs (hn _) (h _)
theorem term_ends (a : Int) (key : ByteArray) : (termT a key).Ends U32 := by
  have hL : ∀ (docs : Int) (f : Nat) (lo hi : Int), (termL a docs key f lo hi).Ends U32 := by
    intro docs f
    induction f with
    | zero => exact fun _ _ => u32_zero
    | succ f ih =>
      intro lo hi
      unfold termL
      split
      · intro v _
        refine ends_bind _ _ (ends_all (fun k => ?_) _)
        intro o
        dsimp only
        split
        · exact u32_zero
        · split
          · exact fun u hu => hu
          · split
            · exact ih _ _
            · exact ih _ _
      · exact u32_zero
  unfold termT
  intro d _ hi _
  dsimp only
  split
  · exact u32_zero
  · exact hL _ _ _ _
theorem RM.su {w : World} {K : Nat → Prop} {r m c : Nat} {s : St} (h : RM w K r m c s) : SU s := by
  obtain ⟨g, h1, _⟩ := h.run
  exact ⟨h1.range, h.mem.range⟩
theorem term_u32 {w : World} {K : Nat → Prop} {r m c : Nat} {s : St} (h : RM w K r m c s) (a : Int) (key : ByteArray) : U32 ((termT a key).exec s).1 :=
  exec_ends _ s h.su (noSt_of _ 0 (cost_term a key 0)) (term_ends a key)

/-- the closure of the statement -/
def ContClo (f : FuncId) : Prop := ∀ (w : World) (K : Nat → Prop) (r m c : Nat) (s : St) (b1 b2 b3 b4 b5 lb off n cap i : Nat) (a : Int) (key : ByteArray) (v4 v5 : Value), RM w K r m c s →
  w.cell? ⟨b1, 0, none⟩ = some (.int .i64 a) → w.cell? ⟨b2, 0, none⟩ = some (.slice (some ⟨lb, off, none⟩) n cap) → w.cell? ⟨b3, 0, none⟩ = some (.int .i64 (i : Int)) → w.cell? ⟨lb, off + i * 3, none⟩ = some (.string key) → K b1 → K b2 → K b3 → K lb → i < n → n ≤ 9223372036854775807 →
  Blk w b4 [v4] → Blk w b5 [v5] → K b4 → K b5 → b4 ≠ b5 → 0 ≤ a ∧ a ≤ 70000 →
  Calls Try.prog f #[.pointer (some ⟨r, 0, none⟩), .pointer (some ⟨b1, 0, none⟩), .pointer (some ⟨b2, 0, none⟩), .pointer (some ⟨b3, 0, none⟩), .pointer (some ⟨b4, 0, none⟩), .pointer (some ⟨b5, 0, none⟩)] w fun e w' => e = .returned (.tuple #[]) ∧ RM w' K r m c ((contT a key).exec s).2 ∧
    (∃ g1 g2, Blk w' b4 [g1] ∧ Blk w' b5 [g2] ∧ EntV w' (fun b => b ≠ r ∧ b ≠ m ∧ b ≠ c ∧ ¬ K b ∧ b < w'.heap.size) g1 ((contT a key).exec s).1.1 ∧ EntV w' (fun b => b ≠ r ∧ b ≠ m ∧ b ≠ c ∧ ¬ K b ∧ b < w'.heap.size) g2 ((contT a key).exec s).1.2) ∧ Keeps (fun b => K b ∧ b ≠ b4 ∧ b ≠ b5) w w'
set_option maxRecDepth 100000 in
set_option maxHeartbeats 2000000 in
theorem cont_clo : ContClo 18 := by
  intro w K r m c s b1 b2 b3 b4 b5 lb off n cap i a key v4 v5 h c1 c2 c3 ck k1 k2 k3 kl hin hn9 hb4 hb5 k4 k5 hne ha
  have hexec : (contT a key).exec s = ((((listT ((termT a key).exec ((docsT a).exec s).2).1 ((docsT a).exec s).1).exec ((termT a key).exec ((docsT a).exec s).2).2).1, ((listT ((termT a key).exec ((docsT a).exec s).2).1 (((docsT a).exec s).1.tdiv 2)).exec ((listT ((termT a key).exec ((docsT a).exec s).2).1 ((docsT a).exec s).1).exec ((termT a key).exec ((docsT a).exec s).2).2).2).1), ((listT ((termT a key).exec ((docsT a).exec s).2).1 (((docsT a).exec s).1.tdiv 2)).exec ((listT ((termT a key).exec ((docsT a).exec s).2).1 ((docsT a).exec s).1).exec ((termT a key).exec ((docsT a).exec s).2).2).2).2) := by
    unfold contT
    rw [Tree.exec_bind, Tree.exec_bind, Tree.exec_bind, Tree.exec_bind]
    rfl
  have HX := hid hexec
  clear hexec
  have hd := find_docs h a
  have HD := hid hd
  clear hd
  generalize (docsT a).exec s = r1 at *
  obtain ⟨nd, s1⟩ := r1
  have HK1 := hid k1
  have HK2 := hid k2
  have HK3 := hid k3
  have HKl := hid kl
  have HK4 := hid k4
  have HK5 := hid k5
  have Hb4 := hid hb4
  have Hb5 := hid hb5
  have HC2 := hid c2
  have HC3 := hid c3
  have HCk := hid ck
  clear h k1 k2 k3 kl k4 k5 hb4 hb5 c2 c3 ck
  refine calls_hide fun R' hR' => ?_
  go_enter Try.func18, Try.ntmps18
  go_wp2_with fail
  refine HD.out.mono ?_
  rintro e w1 ⟨rfl, hr1, hk1, hn0, hn1⟩
  (try dsimp only at hr1 hn0 hn1)
  have d1 := (World.cell?_of_block (hk1.block b1 HK1.out)).trans c1
  have d2 := (World.cell?_of_block (hk1.block b2 HK2.out)).trans HC2.out
  have d3 := (World.cell?_of_block (hk1.block b3 HK3.out)).trans HC3.out
  have dk := (World.cell?_of_block (hk1.block lb HKl.out)).trans HCk.out
  have hrd : RM w1.drew K r m c s1 := hr1.drew
  have hinI : (i : Int) < (n : Int) := by omega
  have hi0 : (0 : Int) ≤ (i : Int) := Int.natCast_nonneg i
  have HT := hid (find_term hrd a ⟨by omega, by omega⟩ key)
  have hu := term_u32 hrd a key
  have hkd := hk1.drew
  have Hkd := hid hkd
  clear hkd
  clear c1 hr1 hrd hk1
  (try dsimp only at HX)
  generalize (termT a key).exec s1 = r2 at *
  obtain ⟨la, s2⟩ := r2
  (try dsimp only at hu)
  (try dsimp only at HX)
  (try dsimp only at HT)
  obtain ⟨hu0, hu1⟩ := hu
  go_wp2_with fail
  refine wp_region_still_tail 7 (by kernel_rfl) (by kernel_rfl) ?_
  simp only [List.take_succ_cons, List.take_zero, List.drop_succ_cons, List.drop_zero]
  repeat still_step
  refine wpStill_nil ?_
  change wpList _ _ _ _ _ w1.drew
  go_wp2_with fail
  refine HT.out.mono ?_
  rintro e w2 ⟨rfl, hr2, hk2⟩
  (try dsimp only at hr2)
  have HL := hid (find_list hr2 la nd ⟨by omega, by omega⟩ ⟨by omega, by omega⟩)
  have hk2d := Hkd.out.trans hk2
  have hb42 := Hb4.out.keep hk2d HK4.out
  have hb52 := Hb5.out.keep hk2d HK5.out
  have Hk2d := hid hk2d
  have Hb42 := hid hb42
  have Hb52 := hid hb52
  clear hk2d hb42 hb52
  clear hr2 hk2 HT d1 d2 d3 dk
  generalize (listT la nd).exec s2 = r3 at *
  obtain ⟨al, s3⟩ := r3
  (try dsimp only at HX)
  (try dsimp only at HL)
  go_wp2_with fail
  refine HL.out.mono ?_
  rintro e w3 ⟨g1, G1, rfl, hr3, ho3, hg3, hG3, hk3⟩
  (try dsimp only at hr3 ho3)
  obtain ⟨A1, cp1, rfl⟩ := own_slice0 ho3.choose_spec.1
  have hb43 := Hb42.out.keep hk3 HK4.out
  have y4 := hb43.cell 0
  have f4 := hb43.free 0
  simp only [List.getElem?_cons_zero] at y4
  have hset : Keeps (· ≠ b4) w3 (w3.setCell ⟨b4, 0, none⟩ (.slice A1 al.length cp1)) := (Keeps.refl _ _).setCell (fun h => h rfl) _
  have hrK : RM (w3.setCell ⟨b4, 0, none⟩ (.slice A1 al.length cp1)) (fun y => (K y ∨ G1 y) ∨ (Value.slice A1 al.length cp1).ownBlock = some y) r m c s3 := hr3.setK (Or.inl (Or.inl HK4.out)) _
  have hE3 : EntV w3 (fun y => G1 y ∨ (Value.slice A1 al.length cp1).ownBlock = some y) (.slice A1 al.length cp1) al := by
    obtain ⟨cells, o1, o2⟩ := ho3
    exact ⟨cells, (own_slAtL o1).mono (fun b hb => Or.inr hb), EntAt.mono (fun b hb => Or.inl hb) al cells o2⟩
  have hne4 : ∀ y, G1 y ∨ (Value.slice A1 al.length cp1).ownBlock = some y → ¬ K y := by
    rintro y (hy | hy)
    · exact hG3 y hy
    · exact (hg3 y hy).1
  have hE4 := hE3.keep hset (fun b hy e => by rw [e] at hy; exact hne4 _ hy HK4.out)
  have hB4 : Blk (w3.setCell ⟨b4, 0, none⟩ (.slice A1 al.length cp1)) b4 [.slice A1 al.length cp1] := by have := hb43.set 0 (.slice A1 al.length cp1); simpa using this
  have hB5 := (Hb52.out.keep hk3 HK5.out).keep hset (fun e => hne e.symm)
  have hkw := Hk2d.out.trans (hk3)
  have hkw2 : Keeps (fun b => K b ∧ b ≠ b4) w (w3.setCell ⟨b4, 0, none⟩ (.slice A1 al.length cp1)) := (hkw.mono fun b hb => hb.1).trans (hset.mono fun b hb => hb.2)
  have htd : -9223372036854775808 ≤ nd.tdiv 2 ∧ nd.tdiv 2 ≤ 9223372036854775807 := by
    by_cases h : nd = -1
    · rw [h]; decide
    · rw [Int.tdiv_eq_ediv_of_nonneg (by omega)]; omega
  have HL2 := hid (find_list hrK la (nd.tdiv 2) ⟨by omega, by omega⟩ htd)
  clear hE3 hr3 ho3 hg3 hG3 hk3 hb43 hset hkw hrK
  have HE4 := hid hE4
  have HBB4 := hid hB4
  have HBB5 := hid hB5
  have Hkw2 := hid hkw2
  have Hne4 := hid hne4
  clear hE4 hB4 hB5 hkw2 hne4
  generalize (listT la (nd.tdiv 2)).exec s3 = r4 at *
  obtain ⟨so, s4⟩ := r4
  (try dsimp only at HX)
  (try dsimp only at HL2)
  go_wp2_with fail
  refine HL2.out.mono ?_
  rintro e w4 ⟨g2, G2, rfl, hr4, ho4, hg4, hG4, hk4⟩
  (try dsimp only at hr4 ho4)
  obtain ⟨A2, cp2, rfl⟩ := own_slice0 ho4.choose_spec.1
  have hb54 := HBB5.out.keep hk4 (Or.inl (Or.inl HK5.out))
  have y5 := hb54.cell 0
  have f5 := hb54.free 0
  simp only [List.getElem?_cons_zero] at y5
  have hst := store_list hr4 ho4 hg4 hG4 hk4 HBB5.out (Or.inl (Or.inl HK5.out))
  have hsz : (w4.setCell ⟨b5, 0, none⟩ (.slice A2 so.length cp2)).heap.size = w4.heap.size := by simp
  have hfin : RM (w4.setCell ⟨b5, 0, none⟩ (.slice A2 so.length cp2)) K r m c s4 ∧
      (∃ g1 g2, Blk (w4.setCell ⟨b5, 0, none⟩ (.slice A2 so.length cp2)) b4 [g1] ∧ Blk (w4.setCell ⟨b5, 0, none⟩ (.slice A2 so.length cp2)) b5 [g2] ∧ EntV (w4.setCell ⟨b5, 0, none⟩ (.slice A2 so.length cp2)) (fun b => b ≠ r ∧ b ≠ m ∧ b ≠ c ∧ ¬ K b ∧ b < (w4.setCell ⟨b5, 0, none⟩ (.slice A2 so.length cp2)).heap.size) g1 al ∧ EntV (w4.setCell ⟨b5, 0, none⟩ (.slice A2 so.length cp2)) (fun b => b ≠ r ∧ b ≠ m ∧ b ≠ c ∧ ¬ K b ∧ b < (w4.setCell ⟨b5, 0, none⟩ (.slice A2 so.length cp2)).heap.size) g2 so) ∧ Keeps (fun b => K b ∧ b ≠ b4 ∧ b ≠ b5) w (w4.setCell ⟨b5, 0, none⟩ (.slice A2 so.length cp2)) := by
    obtain ⟨q1, q2, q3, q4⟩ := hst
    refine ⟨q1.mono (fun b hb => Or.inl (Or.inl hb)), ⟨_, _, HBB4.out.keep q4 ⟨Or.inl (Or.inl HK4.out), hne⟩, q2, ?_, q3.up (fun b hb => ⟨hb.1, hb.2.1, hb.2.2.1, fun h => hb.2.2.2.1 (Or.inl (Or.inl h)), by rw [hsz]; exact hb.2.2.2.2⟩)⟩, (Hkw2.out.mono fun b hb => ⟨hb.1, hb.2.1⟩).trans (q4.mono fun b hb => ⟨Or.inl (Or.inl hb.1), hb.2.2⟩)⟩
    refine (HE4.out.keep q4 (fun b hy => ⟨?_, fun e => ?_⟩)).up (fun b hy => ?_)
    · rcases hy with hy | hy
      · exact Or.inl (Or.inr hy)
      · exact Or.inr hy
    · rw [e] at hy; exact Hne4.out _ hy HK5.out
    · have hin : (K b ∨ G1 b) ∨ (Value.slice A1 al.length cp1).ownBlock = some b := by
        rcases hy with hy | hy
        · exact Or.inl (Or.inr hy)
        · exact Or.inr hy
      exact ⟨fun e => q1.kr (e ▸ hin), fun e => q1.km (e ▸ hin), fun e => q1.kc (e ▸ hin), Hne4.out _ hy, q1.lt b hin⟩
  rw [HX.out] at hR'
  have Hfin := hid hfin
  clear hfin
  clear hr4 ho4 hg4 hG4 hk4 hb54 hst HL2 HE4 HBB4 HBB5 Hkw2
  go_wp2_with fail
  go_end0
  exact hR'.out _ _ ⟨rfl, Hfin.out⟩

theorem EntAt.take {w : World} {G : Nat → Prop} : ∀ (k : Nat) (es : List EntM) (cs : List Value), EntAt w G es cs → EntAt w G (es.take k) (cs.take (k * 2))
  | 0, _, _, _ => by rw [List.take_zero, Nat.zero_mul, List.take_zero]; rfl
  | k + 1, [], cs, h => by
    have : cs = [] := h
    subst this
    rw [List.take_nil, List.take_nil]; rfl
  | k + 1, e :: es, _, ⟨v, cs', h1, h2, h3⟩ => by
    rw [h1, show (k + 1) * 2 = k * 2 + 1 + 1 by omega]
    exact ⟨v, cs'.take (k * 2), rfl, h2, EntAt.take k es cs' h3⟩
theorem EntV.take {w : World} {K : Nat → Prop} {A : Option Addr} {cap : Nat} {es : List EntM} (h : EntV w K (.slice A es.length cap) es) {k : Nat} (hk : k ≤ es.length) : EntV w K (.slice A k cap) (es.take k) := by
  obtain ⟨cells, ⟨A', cap', e, h2, h3, h4, h5⟩, hE⟩ := h
  injection e with e1 e2 e3
  subst e1 e3
  have hl : (es.take k).length = k := by rw [List.length_take]; omega
  refine ⟨cells.take (k * 2), ⟨A, cap, by rw [hl], by omega, h3, by rw [List.length_take, hl]; omega, fun hn => ?_⟩, EntAt.take k es cells hE⟩
  obtain ⟨b, off, e, hb, hc⟩ := h5 (by omega)
  refine ⟨b, off, e, hb, fun j u hu => hc j u ?_⟩
  rw [List.getElem?_take] at hu
  split at hu
  · exact hu
  · cases hu
theorem whole_cont {f : FuncId} (hent : ∀ (args : Array Value) (w : World), (callFunc f args).run Try.prog w = .ok (.enter f args) w) (hf : ContClo f) {w : World} {m c : Nat} {μ : MemS} (hm : MemAt w m c μ) (K : Nat → Prop) (hKm : ¬ K m) (hKc : ¬ K c) (hlt : ∀ b, K b → b < w.heap.size)
    (b1 b2 b3 b4 b5 lb off n cap i : Nat) (a : Int) (key : ByteArray) (v4 v5 : Value) (c1 : w.cell? ⟨b1, 0, none⟩ = some (.int .i64 a)) (c2 : w.cell? ⟨b2, 0, none⟩ = some (.slice (some ⟨lb, off, none⟩) n cap)) (c3 : w.cell? ⟨b3, 0, none⟩ = some (.int .i64 (i : Int))) (ck : w.cell? ⟨lb, off + i * 3, none⟩ = some (.string key))
    (k1 : K b1) (k2 : K b2) (k3 : K b3) (kl : K lb) (hin : i < n) (hn9 : n ≤ 9223372036854775807) (hb4 : Blk w b4 [v4]) (hb5 : Blk w b5 [v5]) (k4 : K b4) (k5 : K b5) (hne : b4 ≠ b5) (hnn : (b1 ≠ b4 ∧ b1 ≠ b5) ∧ (b2 ≠ b4 ∧ b2 ≠ b5) ∧ (b3 ≠ b4 ∧ b3 ≠ b5) ∧ (lb ≠ b4 ∧ lb ≠ b5)) (ha : 0 ≤ a ∧ a ≤ 70000)
    {x : List EntM × List EntM} {N : Nat} (most : Nat) (hr : (contT a key).ReadsN μ.cells N fun y => y = x) (hN : N ≤ most) (hm0 : 0 < most) (hm9 : most ≤ 1000000) :
    Calls Try.prog 22 #[.pointer (some ⟨m, 0, none⟩), .int .i64 (most : Int), .func (.func f) #[] #[.pointer (some ⟨b1, 0, none⟩), .pointer (some ⟨b2, 0, none⟩), .pointer (some ⟨b3, 0, none⟩), .pointer (some ⟨b4, 0, none⟩), .pointer (some ⟨b5, 0, none⟩)]] w fun e w' =>
      e = .returned (.bool true) ∧ (∃ μ', MemAt w' m c μ' ∧ μ'.cells = μ.cells) ∧ Keeps (fun b => K b ∧ b ≠ b4 ∧ b ≠ b5) w w' ∧ ∃ g1 g2, Blk w' b4 [g1] ∧ Blk w' b5 [g2] ∧ EntV w' (fun b => b ≠ m ∧ b ≠ c ∧ ¬ K b ∧ b < w'.heap.size) g1 x.1 ∧ EntV w' (fun b => b ≠ m ∧ b ≠ c ∧ ¬ K b ∧ b < w'.heap.size) g2 x.2 := by
  obtain ⟨x', n', h1, h2, rfl⟩ := hr
  refine (whole15 hm hKm hKc hlt f #[.pointer (some ⟨b1, 0, none⟩), .pointer (some ⟨b2, 0, none⟩), .pointer (some ⟨b3, 0, none⟩), .pointer (some ⟨b4, 0, none⟩), .pointer (some ⟨b5, 0, none⟩)] hent (contT a key) h1 most (Nat.le_trans h2 hN) hm0 hm9 (fun w1 => Keeps (fun b => K b ∧ b ≠ b4 ∧ b ≠ b5) w w1 ∧ (∃ v, Blk w1 b4 [v]) ∧ ∃ v, Blk w1 b5 [v])
    (fun r y w1 => ∃ g1 g2, Blk w1 b4 [g1] ∧ Blk w1 b5 [g2] ∧ EntV w1 (fun b => b ≠ r ∧ b ≠ m ∧ b ≠ c ∧ ¬ K b ∧ b < w1.heap.size) g1 y.1 ∧ EntV w1 (fun b => b ≠ r ∧ b ≠ m ∧ b ≠ c ∧ ¬ K b ∧ b < w1.heap.size) g2 y.2) ⟨Keeps.refl _ _, ⟨v4, hb4⟩, v5, hb5⟩ ?_ ?_ ?_).mono ?_
  · rintro w1 w2 ⟨q1, ⟨v, hb⟩, v', hb'⟩ q2
    exact ⟨q1.trans (q2.mono fun b hb => hb.1), ⟨v, hb.keep q2 k4⟩, v', hb'.keep q2 k5⟩
  · rintro r y w1 w2 hKr ⟨g1, g2, hb, hb', he, he'⟩ q2
    exact ⟨g1, g2, hb.keep q2 (fun e => hKr (e ▸ k4)), hb'.keep q2 (fun e => hKr (e ▸ k5)), (he.keep q2 (fun b hb => hb.1)).up fun b hb => ⟨hb.1, hb.2.1, hb.2.2.1, hb.2.2.2.1, Nat.lt_of_lt_of_le hb.2.2.2.2 q2.size⟩, (he'.keep q2 (fun b hb => hb.1)).up fun b hb => ⟨hb.1, hb.2.1, hb.2.2.1, hb.2.2.2.1, Nat.lt_of_lt_of_le hb.2.2.2.2 q2.size⟩⟩
  · rintro w1 r s1 ⟨q1, ⟨v, hb⟩, v', hb'⟩ hr1
    refine (hf w1 K r m c s1 b1 b2 b3 b4 b5 lb off n cap i a key v v' hr1 ((World.cell?_of_block (q1.block b1 ⟨k1, hnn.1⟩)).trans c1) ((World.cell?_of_block (q1.block b2 ⟨k2, hnn.2.1⟩)).trans c2) ((World.cell?_of_block (q1.block b3 ⟨k3, hnn.2.2.1⟩)).trans c3) ((World.cell?_of_block (q1.block lb ⟨kl, hnn.2.2.2⟩)).trans ck) k1 k2 k3 kl hin hn9 hb hb' k4 k5 hne ha).mono ?_
    rintro e w2 ⟨rfl, h3, ⟨g1, g2, p1, p2, p3, p4⟩, h5⟩
    exact ⟨rfl, h3, ⟨q1.trans h5, ⟨_, p1⟩, _, p2⟩, g1, g2, p1, p2, p3, p4⟩
  · rintro e w' ⟨rfl, h3, ⟨h4, _⟩, ⟨r, _, g1, g2, p1, p2, p3, p4⟩, _⟩
    exact ⟨rfl, h3, h4, g1, g2, p1, p2, p3.up fun b hb => ⟨hb.2.1, hb.2.2.1, hb.2.2.2.1, hb.2.2.2.2⟩, p4.up fun b hb => ⟨hb.2.1, hb.2.2.1, hb.2.2.2.1, hb.2.2.2.2⟩⟩

set_option maxRecDepth 100000 in
set_option maxHeartbeats 8000000 in
theorem content_walk (rA : Option Addr) (rn rcap : Nat) (rc : List Int) (hru : ∀ x ∈ rc, U32 x) (A : Option Addr) (cap : Nat) (ls : List LstM) (w : World)
    (hr : SlAt w (· < w.heap.size) 4 (.slice rA rn rcap) rn (rc.map (Value.int .u32))) (hv : ListsV w (· < w.heap.size) (.slice A ls.length cap) ls) :
    Calls Try.prog 5 #[.slice rA rn rcap, .slice A ls.length cap] w fun e w' => e = .returned (.bool true) ∧ Keeps (· < w.heap.size) w w' := by
  obtain ⟨A0, cap0, he, hd1, hd2⟩ := hr.form
  injection he with e1 _ e3
  subst e1 e3
  unfold maxLen at hd2
  have hrl : rc.length = 4 * rn := by have := hr.choose_spec.choose_spec.2.2.2.1; simp at this; omega
  have HG := hid (great15 rA rn rcap (by omega) A cap ls w hv)
  have HR := hid hr
  have HV := hid hv
  have HRL := hid hrl
  have HRU := hid hru
  have HF := hid (fun w => fixed15 w)
  clear hr hv hrl hru
  refine calls_hide fun R' hR' => ?_
  go_enter Try.func5, Try.ntmps5
  go_wp2_with fail
  refine HG.out.mono ?_
  rintro e w1 ⟨r, rfl, hgr, hk1⟩
  cases r with
  | true =>
    have Hk1 := hid hk1
    clear hk1
    clear hgr
    go_wp2_with fail
    refine (HF.out _).mono ?_
    rintro e w2 ⟨rfl, hk2⟩
    have hs1 := Hk1.out.size
    have hkk := Hk1.out.trans (hk2.mono fun b hb => by omega)
    have Hkk := hid hkk
    clear hkk
    clear hk2
    go_wp2_with fail
    exact hR'.out _ _ ⟨rfl, Hkk.out⟩
  | false =>
    obtain ⟨hls, hkey, hts⟩ := hgr rfl
    have hs1 := hk1.size
    have hH := ref15_hold rA rn rcap rc A cap ls hkey hls w1 ((HR.out.keep hk1 (fun b hb => hb)).mono (fun b hb => Nat.lt_of_lt_of_le hb hs1)) ((HV.out.keep hk1 (fun b hb => hb)).up (fun b hb => Nat.lt_of_lt_of_le hb hs1))
    have HKY := hid hkey
    have HTS := hid hts
    have Hk1 := hid hk1
    have HH := hid hH
    clear hk1 hH
    clear hgr hkey hts
    go_wp2_with fail
    refine HH.out.mono ?_
    rintro e w2 (⟨g, gc, ov, rfl, hM, hN2, hL2⟩ | ⟨rfl, _, hk2⟩)
    case inr =>
      have hkk0 := Hk1.out.trans (hk2.mono fun b hb => by omega)
      have hs2 := hkk0.size
      have hkk := (hkk0.alloc (fun b hb => by omega) (.cells #[.slice none 0 0] 30)).alloc (fun b hb => by simp; omega) (.cells #[.int .i64 0] 3)
      have Hkk := hid hkk
      clear hkk
      clear hk2 hkk0
      go_wp2_with fail
      refine (HF.out _).mono ?_
      rintro e w3 ⟨rfl, hk3⟩
      have hkf := Hkk.out.trans (hk3.mono fun b hb => by simp; omega)
      have Hkf := hid hkf
      clear hkf
      clear hk3
      go_wp2_with fail
      exact hR'.out _ _ ⟨rfl, Hkf.out⟩
    have htot := HTS.out (may_small hM)
    obtain ⟨hl1, hl2, hl3⟩ := all_len HRL.out hM HKY.out hls htot
    have hu := all_u32 HRL.out HRU.out hM HKY.out hls htot
    have hdocs : (allC rn rc ls)[(cellsR ls).length]? = some ((rn : Int) + 1) := all_docs
    have hcpos : 1 ≤ (allC rn rc ls).length := by have := (List.getElem?_eq_some_iff.1 hdocs).1; omega
    have e9 : cellsR ls ++ makeL (cellsR ls).length rn rc (outP ls ls.length) = allC rn rc ls := rfl
    rw [e9] at hN2 ⊢
    have hol := outP_len (ls := ls) ls.length (Nat.le_refl _)
    obtain ⟨oA, oc, rfl, ho1, ho2⟩ := hL2.form
    unfold maxLen at ho2
    have hsl : SlAt w2 (· < w2.heap.size) 1 (.slice (some ⟨g, 0, none⟩) (allC rn rc ls).length gc) (allC rn rc ls).length ((allC rn rc ls).map (Value.int .u32)) := (ownB_slAt hN2.1).mono (fun b hb => hb.2)
    have hkk := Hk1.out.trans (hN2.2.mono fun b hb => by omega)
    have hrn := hM.1
    have HX := hid (fun (i : Nat) (l : LstM) (h : ls[i]? = some l) => all_tab (rc := rc) HRL.out h)
    have HRD := hid (fun (i : Nat) (l : LstM) (h : ls[i]? = some l) (mo : Int) hmo => all_reads HRL.out hM h mo hmo)
    have HOG := hid (fun (i : Nat) (l : LstM) (h : ls[i]? = some l) => outP_get h ls.length (List.getElem?_eq_some_iff.1 h).1 (Nat.le_refl _))
    have HXC := hid (fun (i : Nat) (l : LstM) (h : ls[i]? = some l) => all_cont (rc := rc) HRL.out hM HKY.out h)
    have HBA := hid (fun (i : Nat) (l : LstM) (h : ls[i]? = some l) => below_all (out_may hM h).2.2)
    have HME := hid (fun (i : Nat) (l : LstM) (h : ls[i]? = some l) => (out_may hM h).2.1)
    have hup : UpK ((outP ls ls.length).map LstM.key) := by
      have h0 := keys_up hM
      intro i a b ha hb
      rw [List.getElem?_map] at ha hb
      obtain ⟨x, hx, rfl⟩ := Option.map_eq_some_iff.1 ha
      obtain ⟨y, hy, rfl⟩ := Option.map_eq_some_iff.1 hb
      have hi := (List.getElem?_eq_some_iff.1 hx).1
      have hj := (List.getElem?_eq_some_iff.1 hy).1
      have h1 := outP_get (ls := ls) (List.getElem?_eq_getElem (show i < ls.length by omega)) ls.length (by omega) (Nat.le_refl _)
      have h2 := outP_get (ls := ls) (List.getElem?_eq_getElem (show i + 1 < ls.length by omega)) ls.length (by omega) (Nat.le_refl _)
      rw [hx] at h1; injection h1 with h1
      rw [hy] at h2; injection h2 with h2
      refine h0 i x.key y.key ?_ ?_
      · rw [List.getElem?_map, List.getElem?_eq_getElem (show i < ls.length by omega), h1]; rfl
      · rw [List.getElem?_map, List.getElem?_eq_getElem (show i + 1 < ls.length by omega), h2]; rfl
    generalize hat : (cellsR ls).length = at' at *
    generalize hcs : allC rn rc ls = cs at *
    have hcl : cs.length ≤ 65536 := by omega
    have HCN := hid (show ∀ x ∈ cs, U32 x from hu)
    have Hkk := hid hkk
    have Hsl := hid hsl
    have HL2 := hid hL2
    have Hup := hid hup
    have Hat := hid hat
    have Hcs := hid hcs
    have HM := hid hM
    clear hkk hsl hL2 hup hat hcs hM
    clear hN2 hu hdocs e9 HH Hk1 HG htot HTS
    generalize hout : outP ls ls.length = out at *
    have HOUT := hid hout
    clear hout
    go_wp2_with fail
    refine calls_gen (fun W => Blk W w2.heap.size [.slice oA ls.length oc] ∧ Blk W (w2.heap.size + 1) [.int .i64 (at' : Int)] ∧ ListsV W (· < w2.heap.size) (.slice oA ls.length oc) out ∧ SlAt W (· < W.heap.size) 1 (.slice (some ⟨g, 0, none⟩) cs.length gc) cs.length (cs.map (Value.int .u32)) ∧ Keeps (· < w.heap.size) w W ∧ w2.heap.size + 2 = W.heap.size ∧ w.heap.size ≤ w2.heap.size) ⟨(Blk.new _ _ _).alloc _, Blk.new' _ _ _ (by simp), ?_, ?_, (Hkk.out.alloc (fun b hb => by have := Hkk.out.size; omega) _).alloc (fun b hb => by have := Hkk.out.size; simp; omega) _, by simp, Hkk.out.size⟩ ?_
    · have h9 := HL2.out.keep (((Keeps.refl (· < w2.heap.size) w2).alloc (fun b hb => hb) (.cells #[.slice oA ls.length oc] 30)).alloc (fun b hb => by simp; omega) (.cells #[.int .i64 (at' : Int)] 3)) (fun b hb => hb)
      rw [hol] at h9
      exact h9
    · exact (Hsl.out.keep (((Keeps.refl (· < w2.heap.size) w2).alloc (fun b hb => hb) _).alloc (fun b hb => by simp; omega) _) (fun b hb => hb)).mono (fun b hb => by simp; omega)
    rintro W2 ⟨hbl, hbat, hL2, hsl2, hkk2, hz2, hws⟩
    generalize hblb : w2.heap.size = bl at *
    generalize hbab : bl + 1 = bat at *
    clear HL2 Hsl Hkk hs1
    refine (of15 (some ⟨g, 0, none⟩) cs.length gc cs rfl hcpos hcl HCN.out W2 hsl2).mono ?_
    rintro e w3 ⟨rfl, ⟨μ3, hm3, hc3⟩, hk3⟩
    have hbl3 := hbl.keep hk3 hbl.lt
    have hbat3 := hbat.keep hk3 hbat.lt
    have hL3 := hL2.keep hk3 (fun b hb => by omega)
    have hkk3 := hkk2.trans (hk3.mono fun b hb => by omega)
    have hz3 := hk3.size
    generalize hcc : W2.heap.size = c at *
    generalize hmm : c + 1 = m at *
    have hcm : c < m := by omega
    have hm3l := hm3.obj.lt
    have Hm3 := hid hm3
    have Hc3 := hid hc3
    have HL3 := hid hL3
    have Hkk3 := hid hkk3
    have Hcc := hid hcc
    have Hbl3 := hid hbl3
    have Hbat3 := hid hbat3
    clear hm3 hc3 hL3 hkk3 hcc hbl3 hbat3
    clear hk3 HCN hbl hbat hL2 hsl2 hkk2
    have x6 := Hbl3.out.cell 0
    simp only [List.getElem?_cons_zero] at x6
    go_wp2_with fail
    clear x6
    go_loopw [35] (fun iv wr => ∃ (i : Nat) (μ : MemS), iv = .int .i64 (i : Int) ∧ i ≤ ls.length ∧ m < wr.heap.size ∧ Hid (MemAt wr m c μ) ∧ Hid (μ.cells = cs) ∧ Hid (Keeps (· < c) w3 wr)) (fun iv _ => ls.length - (intOf iv).toNat)
    case atStart => exact ⟨0, μ3, rfl, Nat.zero_le _, hm3l, Hm3, Hc3, hid (Keeps.refl _ _)⟩
    case round =>
      obtain ⟨i, μ, rfl, hi, hmw, HMr, HCr, HKr⟩ := hrel
      by_cases hlt : i < ls.length
      · have hltI : (i : Int) < (ls.length : Int) := by omega
        have hi0 : (0 : Int) ≤ (i : Int) := Int.natCast_nonneg i
        have hgl : ls[i]? = some ls[i] := List.getElem?_eq_getElem hlt
        generalize ls[i] = l at hgl
        have hgo := HOG.out i l hgl
        go_upto_region 14 with fail
        refine wp_gen (fun W => Blk W wr.heap.size [.int .i64 (i : Int)] ∧ Blk W (wr.heap.size + 1) [.slice none 0 0] ∧ Blk W (wr.heap.size + 1 + 1) [.slice none 0 0] ∧ MemAt W m c μ ∧ Keeps (· < c) w3 W ∧ wr.heap.size + 3 = W.heap.size) ⟨((Blk.new _ _ _).alloc _).alloc _, (Blk.new' _ _ _ (by simp)).alloc _, Blk.new' _ _ _ (by simp), ?_, ?_, by simp⟩ ?_
        · exact HMr.out.keep ((((Keeps.refl (· < wr.heap.size) _).alloc (fun b hb => hb) _).alloc (fun b hb => by simp; omega) _).alloc (fun b hb => by simp; omega) _) HMr.out.obj.lt HMr.out.cells.lt
        · exact ((HKr.out.alloc (fun b hb => by omega) _).alloc (fun b hb => by simp; omega) _).alloc (fun b hb => by simp; omega) _
        rintro W ⟨hB3, hB4, hB5, hmW, hkW, hzW⟩
        generalize hb3 : wr.heap.size = b3 at *
        generalize hb4 : b3 + 1 = b4 at *
        generalize hb5 : b4 + 1 = b5 at *
        have HZ3 := hid (show b3 < b4 ∧ b4 < b5 ∧ m < b3 from ⟨by omega, by omega, hmw⟩)
        clear hb3 HMr
        have hLW := HL3.out.keep hkW (fun q hq => by omega)
        obtain ⟨b, off, cp, ev, e1, hKb, x0, x1, x2, hev⟩ := ListsV.get (by rw [← hol] at hLW; exact hLW) hgo
        rw [hol] at e1
        injection e1 with e1 _ e2
        subst e1 e2
        obtain ⟨fA, fc, rfl, hq1, hq2⟩ := hev.form
        obtain ⟨na, hna⟩ : ∃ na, na = l.ents.length := ⟨_, rfl⟩
        obtain ⟨ns, hns⟩ : ∃ ns, ns = (belowL l.ents ((rn : Int) / 2)).length := ⟨_, rfl⟩
        have hbt := below_take (HME.out i l hgl) ((rn : Int) / 2)
        rw [← hns, ← hna] at hbt
        obtain ⟨hbt1, hbt2⟩ := hbt
        rw [← hna] at x2 hev hq1
        have hna64 : na ≤ 64 := by rw [hna]; exact (HME.out i l hgl).1
        have hcbl := (Hbl3.out.keep hkW (show bl < c by omega)).cell 0
        have hcba := (Hbat3.out.keep hkW (show bat < c by omega)).cell 0
        simp only [List.getElem?_cons_zero] at hcbl hcba
        have hbd := Keeps.drew (Keeps.refl (· < W.heap.size) W)
        have hrdk := HXC.out i l hgl
        rw [← HCr.out, HBA.out i l hgl] at hrdk
        have hwl := whole_cont (f := 18) (fun _ _ => by rfl) cont_clo (w := W.drew) (hmW.keep hbd hmW.obj.lt hmW.cells.lt) (fun b => b ≠ m ∧ b ≠ c ∧ b < W.heap.size) (fun h => h.1 rfl) (fun h => h.2.1 rfl) (fun b h => h.2.2) bat bl b3 b4 b5 b off ls.length oc i (at' : Int) l.key (.slice none 0 0) (.slice none 0 0) hcba hcbl (hB3.cell 0) x0 ⟨by omega, by omega, by omega⟩ ⟨by omega, by omega, by omega⟩ ⟨by omega, by omega, by omega⟩ ⟨by omega, by omega, by omega⟩ hlt (by omega) hB4.drew hB5.drew ⟨by omega, by omega, by omega⟩ ⟨by omega, by omega, by omega⟩ (by omega) ⟨⟨by omega, by omega⟩, ⟨by omega, by omega⟩, ⟨by omega, by omega⟩, ⟨by omega, by omega⟩⟩ ⟨by omega, by omega⟩ 70000 hrdk (by decide) (by decide) (by decide)
        have HW7 := hid (show Calls Try.prog 22 #[.pointer (some ⟨m, 0, none⟩), .int .i64 70000, .func (.func 18) #[] #[.pointer (some ⟨bat, 0, none⟩), .pointer (some ⟨bl, 0, none⟩), .pointer (some ⟨b3, 0, none⟩), .pointer (some ⟨b4, 0, none⟩), .pointer (some ⟨b5, 0, none⟩)]] W.drew fun e w7 => e = .returned (.bool true) ∧ ∃ gA gcap hA hcap, Hid ((∃ μ', MemAt w7 m c μ' ∧ μ'.cells = cs) ∧ Keeps (· < c) w3 w7 ∧ EntV w7 (· < w7.heap.size) (.slice gA na gcap) l.ents ∧ EntV w7 (· < w7.heap.size) (.slice hA ns hcap) (l.ents.take ns) ∧ EntV w7 (· < w7.heap.size) (.slice fA na fc) l.ents ∧ m < w7.heap.size) ∧ na ≤ gcap ∧
            w7.cell? ⟨b4, 0, none⟩ = some (.slice gA na gcap) ∧ w7.cell? ⟨b5, 0, none⟩ = some (.slice hA ns hcap) ∧ w7.cell? ⟨bl, 0, none⟩ = some (.slice (some ⟨b, off, none⟩) ls.length oc) ∧ w7.cell? ⟨b3, 0, none⟩ = some (.int .i64 (i : Int)) ∧ w7.cell? ⟨b, off + i * 3 + 2, none⟩ = some (.slice fA na fc) from by
          refine hwl.mono ?_
          rintro e w7 ⟨rfl, ⟨μ7, hm7, hc7⟩, hk7, g1, g2, p1, p2, p3, p4⟩
          obtain ⟨gA, gcap, rfl, hg1, hg2⟩ := p3.form
          obtain ⟨hA, hcap, rfl, -, -⟩ := p4.form
          rw [← hna] at p1 p3 hg1
          rw [← hns] at p2 p4
          rw [hbt1] at p4
          have hz7 := hk7.size
          have hzd : W.drew.heap.size = W.heap.size := rfl
          have kc : Keeps (fun q => q < W.heap.size ∧ q ≠ m ∧ q ≠ c ∧ q ≠ b4 ∧ q ≠ b5) W w7 := (Keeps.refl _ _).drew.trans (hk7.mono fun q hq => ⟨⟨hq.2.1, hq.2.2.1, hq.1⟩, hq.2.2.2⟩)
          have hKc : ∀ q, q < c → q < W.heap.size ∧ q ≠ m ∧ q ≠ c ∧ q ≠ b4 ∧ q ≠ b5 := fun q hq => ⟨by omega, by omega, by omega, by omega, by omega⟩
          refine ⟨rfl, gA, gcap, hA, hcap, hid ⟨⟨μ7, hm7, hc7.trans HCr.out⟩, hkW.trans (kc.mono hKc), p3.up (fun q hq => hq.2.2.2), p4.up (fun q hq => hq.2.2.2), (hev.keep kc (fun q hq => hKc q (by omega))).up (fun q hq => by omega), by omega⟩, hg1, p1.cell 0, p2.cell 0, (World.cell?_of_block (kc.block bl (hKc bl (by omega)))).trans hcbl, (hB3.keep kc ⟨by omega, by omega, by omega, by omega, by omega⟩).cell 0, (World.cell?_of_block (kc.block b (hKc b (by omega)))).trans x2⟩)
        have HSM := hid (show ∀ (w8 : World) (va vb : Value) (es : List EntM), EntV w8 (· < w8.heap.size) va es → EntV w8 (· < w8.heap.size) vb es → Calls Try.prog 23 #[va, vb] w8 fun e w9 => e = .returned (.bool true) ∧ ∃ n, w8.drewN n = w9 from fun w8 va vb es h1 h2 => same13 _ _ _ _ _ w8 h1 h2)
        have hnsI : ¬ (na : Int) < (ns : Int) := by omega
        have hnsB : decide ((na : Int) < (ns : Int)) = false := decide_eq_false hnsI
        have hnsN : decide (na < ns) = false := decide_eq_false (by omega)
        have hnsM : ¬ na < ns := by omega
        have HNS := hid (show ns ≤ l.ents.length by omega)
        have HNA := hid hna
        clear hwl hrdk hmW hkW hB3 hB4 hB5 hbd x0 x1 x2 hev hgo hLW hKb hna hns hbt1 hq1 hq2 hcbl hcba HCr HKr
        refine wp_region_held_drew (S := fun _ => True) (by kernel_rfl) trivial (fun hHeld => ?_)
        refine wpAnyH_take (i := 0) (oi := { dst := some 39, op := Op.move (Operand.tmp 9), type := 35, pos := "law.go:203", after := #[], guard := none }) (v := ?vd0) rfl (by kernel_rfl) (by kernel_rfl) (by kernel_rfl) (fun _ _ _ h => h) (Or.inl ⟨by rfl, ?yd0⟩) (by assumption) ?qd0
        case yd0 => (intro w hSw; (try dsimp only at hSw); (try obtain ⟨s0, s1, s2⟩ := hSw); go_simp; try with_reducible rfl)
        (try simp only [Act.put, List.setIfInBounds_toArray, List.set_cons_zero, List.set_cons_succ])
        refine wpAnyH_take (i := 1) (oi := { dst := some 40, op := Op.move (Operand.tmp 13), type := 44, pos := "law.go:203", after := #[], guard := none }) (v := ?vd1) rfl (by kernel_rfl) (by kernel_rfl) (by kernel_rfl) (fun _ _ _ h => h) (Or.inl ⟨by rfl, ?yd1⟩) (by assumption) ?qd1
        case yd1 => (intro w hSw; (try dsimp only at hSw); (try obtain ⟨s0, s1, s2⟩ := hSw); go_simp; try with_reducible rfl)
        (try simp only [Act.put, List.setIfInBounds_toArray, List.set_cons_zero, List.set_cons_succ])
        refine wpAnyH_ready (rs := [2]) (by kernel_rfl) (by simp) ?_
        refine AllReadyH.cons (o := { dst := some 41, op := Op.call { callee := Callee.value (Operand.func 22), args := #[Operand.tmp 39, Operand.const (Value.int IntKind.i64 70000), Operand.tmp 40], argTypes := #[35, 3, 44] }, type := 4, pos := "law.go:203", after := #[{ on := 0, ground := Ground.data }, { on := 1, ground := Ground.data }], guard := none }) rfl (fun K hK => ?_) AllReadyH.nil
        go_simp
        refine HW7.out.mono ?_
        rintro e w7 ⟨rfl, gA, gcap, hA, hcap, HS7, hng, q0, q1, q2, q3, q4⟩
        go_wp2_with fail
        refine hK.out _ _ trivial (fun _ => ?_)
        clear hK K hHeld HW7
        (try simp only [Act.put, List.setIfInBounds_toArray, List.set_cons_zero, List.set_cons_succ])
        refine wpAnyH_S (S2 := fun w' => w'.cell? ⟨b4, 0, none⟩ = some (.slice gA na gcap) ∧ w'.cell? ⟨b5, 0, none⟩ = some (.slice hA ns hcap) ∧ w'.cell? ⟨bl, 0, none⟩ = some (.slice (some ⟨b, off, none⟩) ls.length oc) ∧ w'.cell? ⟨b3, 0, none⟩ = some (.int .i64 (i : Int)) ∧ w'.cell? ⟨b, off + i * 3 + 2, none⟩ = some (.slice fA na fc)) (fun _ _ => trivial) _ _ _ _ ?_
        have hHeld := And.intro q0 (And.intro q1 (And.intro q2 (And.intro q3 q4)))
        have hngI : (ns : Int) ≤ (gcap : Int) := by omega
        refine wpAnyH_take (i := 3) (oi := { dst := some 42, op := Op.unOp UnOp.not 4 (Operand.tmp 41), type := 4, pos := "law.go:203", after := #[{ on := 2, ground := Ground.data }], guard := none }) (v := .bool false) rfl (by kernel_rfl) (by kernel_rfl) (by kernel_rfl) (fun _ _ _ h => h) (Or.inl ⟨by rfl, ?yc3⟩) (by assumption) ?qc3
        case yc3 => (intro w hSw; (try dsimp only at hSw); (try obtain ⟨s0, s1, s2⟩ := hSw); go_simp; try with_reducible rfl)
        (try simp only [Act.put, List.setIfInBounds_toArray, List.set_cons_zero, List.set_cons_succ])
        refine wpAnyH_take (i := 4) (oi := { dst := some 43, op := Op.move (Operand.tmp 42), type := 4, pos := "law.go:203", after := #[{ on := 3, ground := Ground.data }, { on := 2, ground := Ground.chain }], guard := none }) (v := .bool false) rfl (by kernel_rfl) (by kernel_rfl) (by kernel_rfl) (fun _ _ _ h => h) (Or.inl ⟨by rfl, ?yc4⟩) (by assumption) ?qc4
        case yc4 => (intro w hSw; (try dsimp only at hSw); (try obtain ⟨s0, s1, s2⟩ := hSw); go_simp; try with_reducible rfl)
        (try simp only [Act.put, List.setIfInBounds_toArray, List.set_cons_zero, List.set_cons_succ])
        refine wpAnyH_take (i := 5) (oi := { dst := some 44, op := Op.load 37 (Operand.tmp 11), type := 37, pos := "law.go:203", after := #[{ on := 4, ground := Ground.guard }], guard := some (4, false) }) (v := (.slice gA na gcap)) rfl (by kernel_rfl) (by kernel_rfl) (by kernel_rfl) (fun _ _ _ h => h) (Or.inl ⟨by rfl, ?yc5⟩) (by assumption) ?qc5
        case yc5 => (intro w hSw; (try dsimp only at hSw); (try obtain ⟨s0, s1, s2⟩ := hSw); go_simp; try with_reducible rfl)
        (try simp only [Act.put, List.setIfInBounds_toArray, List.set_cons_zero, List.set_cons_succ])
        refine wpAnyH_take (i := 6) (oi := { dst := some 45, op := Op.load 30 (Operand.tmp 6), type := 30, pos := "law.go:203", after := #[{ on := 4, ground := Ground.guard }], guard := some (4, false) }) (v := (.slice (some ⟨b, off, none⟩) ls.length oc)) rfl (by kernel_rfl) (by kernel_rfl) (by kernel_rfl) (fun _ _ _ h => h) (Or.inl ⟨by rfl, ?yc6⟩) (by assumption) ?qc6
        case yc6 => (intro w hSw; (try dsimp only at hSw); (try obtain ⟨s0, s1, s2⟩ := hSw); go_simp; try with_reducible rfl)
        (try simp only [Act.put, List.setIfInBounds_toArray, List.set_cons_zero, List.set_cons_succ])
        refine wpAnyH_take (i := 7) (oi := { dst := some 46, op := Op.load 3 (Operand.tmp 10), type := 3, pos := "law.go:203", after := #[{ on := 4, ground := Ground.guard }], guard := some (4, false) }) (v := (.int .i64 (i : Int))) rfl (by kernel_rfl) (by kernel_rfl) (by kernel_rfl) (fun _ _ _ h => h) (Or.inl ⟨by rfl, ?yc7⟩) (by assumption) ?qc7
        case yc7 => (intro w hSw; (try dsimp only at hSw); (try obtain ⟨s0, s1, s2⟩ := hSw); go_simp; try with_reducible rfl)
        (try simp only [Act.put, List.setIfInBounds_toArray, List.set_cons_zero, List.set_cons_succ])
        refine wpAnyH_take (i := 8) (oi := { dst := some 47, op := Op.indexAddr 30 (Operand.tmp 45) (Operand.tmp 46), type := 0, pos := "law.go:203", after := #[{ on := 6, ground := Ground.data }, { on := 7, ground := Ground.data }, { on := 4, ground := Ground.guard }], guard := some (4, false) }) (v := (.pointer (some ⟨b, off + i * 3, none⟩))) rfl (by kernel_rfl) (by kernel_rfl) (by kernel_rfl) (fun _ _ _ h => h) (Or.inl ⟨by rfl, ?yc8⟩) (by assumption) ?qc8
        case yc8 => (intro w hSw; (try dsimp only at hSw); (try obtain ⟨s0, s1, s2⟩ := hSw); go_simp; try with_reducible rfl)
        (try simp only [Act.put, List.setIfInBounds_toArray, List.set_cons_zero, List.set_cons_succ])
        refine wpAnyH_take (i := 9) (oi := { dst := some 48, op := Op.fieldAddr 42 (Operand.tmp 47) 2, type := 0, pos := "law.go:203", after := #[{ on := 8, ground := Ground.data }, { on := 4, ground := Ground.guard }], guard := some (4, false) }) (v := (.pointer (some ⟨b, off + i * 3 + 2, none⟩))) rfl (by kernel_rfl) (by kernel_rfl) (by kernel_rfl) (fun _ _ _ h => h) (Or.inl ⟨by rfl, ?yc9⟩) (by assumption) ?qc9
        case yc9 => (intro w hSw; (try dsimp only at hSw); (try obtain ⟨s0, s1, s2⟩ := hSw); go_simp; try with_reducible rfl)
        (try simp only [Act.put, List.setIfInBounds_toArray, List.set_cons_zero, List.set_cons_succ])
        refine wpAnyH_take (i := 10) (oi := { dst := some 49, op := Op.load 37 (Operand.tmp 48), type := 37, pos := "law.go:203", after := #[{ on := 9, ground := Ground.data }, { on := 4, ground := Ground.guard }], guard := some (4, false) }) (v := (.slice fA na fc)) rfl (by kernel_rfl) (by kernel_rfl) (by kernel_rfl) (fun _ _ _ h => h) (Or.inl ⟨by rfl, ?yc10⟩) (by assumption) ?qc10
        case yc10 => (intro w hSw; (try dsimp only at hSw); (try obtain ⟨s0, s1, s2⟩ := hSw); go_simp; try with_reducible rfl)
        (try simp only [Act.put, List.setIfInBounds_toArray, List.set_cons_zero, List.set_cons_succ])
        refine wpAnyH_ready (rs := [11]) (by kernel_rfl) (by simp) ?_
        refine AllReadyH.cons (o := { dst := some 50, op := Op.call { callee := Callee.value (Operand.func 23), args := #[Operand.tmp 44, Operand.tmp 49], argTypes := #[37, 37] }, type := 4, pos := "law.go:203", after := #[{ on := 5, ground := Ground.data }, { on := 10, ground := Ground.data }, { on := 4, ground := Ground.chain }, { on := 4, ground := Ground.guard }], guard := some (4, false) }) rfl (fun K hK => ?_) AllReadyH.nil
        go_simp
        refine (HSM.out _ _ _ l.ents HS7.out.2.2.1 HS7.out.2.2.2.2.1).mono ?_
        rintro e w8 ⟨rfl, nd, rfl⟩
        go_wp2_with fail
        refine hK.out _ _ ⟨q0, q1, q2, q3, q4⟩ (fun hHeld => ?_)
        clear hK K
        (try simp only [Act.put, List.setIfInBounds_toArray, List.set_cons_zero, List.set_cons_succ])
        refine wpAnyH_take (i := 12) (oi := { dst := some 51, op := Op.unOp UnOp.not 4 (Operand.tmp 50), type := 4, pos := "law.go:203", after := #[{ on := 11, ground := Ground.data }, { on := 4, ground := Ground.guard }], guard := some (4, false) }) (v := .bool false) rfl (by kernel_rfl) (by kernel_rfl) (by kernel_rfl) (fun _ _ _ h => h) (Or.inl ⟨by rfl, ?yc12⟩) (by assumption) ?qc12
        case yc12 => (intro w hSw; (try dsimp only at hSw); (try obtain ⟨s0, s1, s2⟩ := hSw); go_simp; try with_reducible rfl)
        (try simp only [Act.put, List.setIfInBounds_toArray, List.set_cons_zero, List.set_cons_succ])
        refine wpAnyH_take (i := 13) (oi := { dst := some 52, op := Op.pick (Operand.tmp 43) (Operand.const (Value.bool true)) (Operand.tmp 51), type := 4, pos := "law.go:203", after := #[{ on := 4, ground := Ground.data }, { on := 12, ground := Ground.data }], guard := none }) (v := .bool false) rfl (by kernel_rfl) (by kernel_rfl) (by kernel_rfl) (fun _ _ _ h => h) (Or.inl ⟨by rfl, ?yc13⟩) (by assumption) ?qc13
        case yc13 => (intro w hSw; (try dsimp only at hSw); (try obtain ⟨s0, s1, s2⟩ := hSw); go_simp; try with_reducible rfl)
        (try simp only [Act.put, List.setIfInBounds_toArray, List.set_cons_zero, List.set_cons_succ])
        refine wpAnyH_take (i := 14) (oi := { dst := some 53, op := Op.move (Operand.tmp 52), type := 4, pos := "law.go:203", after := #[{ on := 13, ground := Ground.data }, { on := 11, ground := Ground.chain }], guard := none }) (v := .bool false) rfl (by kernel_rfl) (by kernel_rfl) (by kernel_rfl) (fun _ _ _ h => h) (Or.inl ⟨by rfl, ?yc14⟩) (by assumption) ?qc14
        case yc14 => (intro w hSw; (try dsimp only at hSw); (try obtain ⟨s0, s1, s2⟩ := hSw); go_simp; try with_reducible rfl)
        (try simp only [Act.put, List.setIfInBounds_toArray, List.set_cons_zero, List.set_cons_succ])
        refine wpAnyH_take (i := 15) (oi := { dst := some 54, op := Op.load 37 (Operand.tmp 12), type := 37, pos := "law.go:203", after := #[{ on := 14, ground := Ground.guard }], guard := some (14, false) }) (v := (.slice hA ns hcap)) rfl (by kernel_rfl) (by kernel_rfl) (by kernel_rfl) (fun _ _ _ h => h) (Or.inl ⟨by rfl, ?yc15⟩) (by assumption) ?qc15
        case yc15 => (intro w hSw; (try dsimp only at hSw); (try obtain ⟨s0, s1, s2⟩ := hSw); go_simp; try with_reducible rfl)
        (try simp only [Act.put, List.setIfInBounds_toArray, List.set_cons_zero, List.set_cons_succ])
        refine wpAnyH_take (i := 16) (oi := { dst := some 55, op := Op.call { callee := Callee.builtin Builtin.len, args := #[Operand.tmp 54], argTypes := #[37] }, type := 3, pos := "law.go:203", after := #[{ on := 15, ground := Ground.data }, { on := 14, ground := Ground.guard }], guard := some (14, false) }) (v := (.int .i64 (ns : Int))) rfl (by kernel_rfl) (by kernel_rfl) (by kernel_rfl) (fun _ _ _ h => h) (Or.inl ⟨by rfl, ?yc16⟩) (by assumption) ?qc16
        case yc16 => (intro w hSw; (try dsimp only at hSw); (try obtain ⟨s0, s1, s2⟩ := hSw); go_simp; try with_reducible rfl)
        (try simp only [Act.put, List.setIfInBounds_toArray, List.set_cons_zero, List.set_cons_succ])
        refine wpAnyH_take (i := 17) (oi := { dst := some 56, op := Op.load 37 (Operand.tmp 11), type := 37, pos := "law.go:203", after := #[{ on := 14, ground := Ground.guard }], guard := some (14, false) }) (v := (.slice gA na gcap)) rfl (by kernel_rfl) (by kernel_rfl) (by kernel_rfl) (fun _ _ _ h => h) (Or.inl ⟨by rfl, ?yc17⟩) (by assumption) ?qc17
        case yc17 => (intro w hSw; (try dsimp only at hSw); (try obtain ⟨s0, s1, s2⟩ := hSw); go_simp; try with_reducible rfl)
        (try simp only [Act.put, List.setIfInBounds_toArray, List.set_cons_zero, List.set_cons_succ])
        refine wpAnyH_take (i := 18) (oi := { dst := some 57, op := Op.call { callee := Callee.builtin Builtin.len, args := #[Operand.tmp 56], argTypes := #[37] }, type := 3, pos := "law.go:203", after := #[{ on := 17, ground := Ground.data }, { on := 14, ground := Ground.guard }], guard := some (14, false) }) (v := (.int .i64 (na : Int))) rfl (by kernel_rfl) (by kernel_rfl) (by kernel_rfl) (fun _ _ _ h => h) (Or.inl ⟨by rfl, ?yc18⟩) (by assumption) ?qc18
        case yc18 => (intro w hSw; (try dsimp only at hSw); (try obtain ⟨s0, s1, s2⟩ := hSw); go_simp; try with_reducible rfl)
        (try simp only [Act.put, List.setIfInBounds_toArray, List.set_cons_zero, List.set_cons_succ])
        refine wpAnyH_take (i := 19) (oi := { dst := some 58, op := Op.binOp BinOp.gtr 3 (Operand.tmp 55) (Operand.tmp 57) 3, type := 4, pos := "law.go:203", after := #[{ on := 16, ground := Ground.data }, { on := 18, ground := Ground.data }, { on := 14, ground := Ground.guard }], guard := some (14, false) }) (v := .bool false) rfl (by kernel_rfl) (by kernel_rfl) (by kernel_rfl) (fun _ _ _ h => h) (Or.inl ⟨by rfl, ?yc19⟩) (by assumption) ?qc19
        case yc19 => (intro w hSw; (try dsimp only at hSw); (try obtain ⟨s0, s1, s2⟩ := hSw); go_simp; try with_reducible rfl)
        (try simp only [Act.put, List.setIfInBounds_toArray, List.set_cons_zero, List.set_cons_succ])
        refine wpAnyH_take (i := 20) (oi := { dst := some 59, op := Op.pick (Operand.tmp 53) (Operand.const (Value.bool true)) (Operand.tmp 58), type := 4, pos := "law.go:203", after := #[{ on := 14, ground := Ground.data }, { on := 19, ground := Ground.data }], guard := none }) (v := .bool false) rfl (by kernel_rfl) (by kernel_rfl) (by kernel_rfl) (fun _ _ _ h => h) (Or.inl ⟨by rfl, ?yc20⟩) (by assumption) ?qc20
        case yc20 => (intro w hSw; (try dsimp only at hSw); (try obtain ⟨s0, s1, s2⟩ := hSw); go_simp; try with_reducible rfl)
        (try simp only [Act.put, List.setIfInBounds_toArray, List.set_cons_zero, List.set_cons_succ])
        refine wpAnyH_take (i := 21) (oi := { dst := some 60, op := Op.move (Operand.tmp 59), type := 4, pos := "law.go:203", after := #[{ on := 20, ground := Ground.data }, { on := 14, ground := Ground.chain }], guard := none }) (v := .bool false) rfl (by kernel_rfl) (by kernel_rfl) (by kernel_rfl) (fun _ _ _ h => h) (Or.inl ⟨by rfl, ?yc21⟩) (by assumption) ?qc21
        case yc21 => (intro w hSw; (try dsimp only at hSw); (try obtain ⟨s0, s1, s2⟩ := hSw); go_simp; try with_reducible rfl)
        (try simp only [Act.put, List.setIfInBounds_toArray, List.set_cons_zero, List.set_cons_succ])
        refine wpAnyH_take (i := 22) (oi := { dst := some 61, op := Op.load 37 (Operand.tmp 12), type := 37, pos := "law.go:203", after := #[{ on := 21, ground := Ground.guard }], guard := some (21, false) }) (v := (.slice hA ns hcap)) rfl (by kernel_rfl) (by kernel_rfl) (by kernel_rfl) (fun _ _ _ h => h) (Or.inl ⟨by rfl, ?yc22⟩) (by assumption) ?qc22
        case yc22 => (intro w hSw; (try dsimp only at hSw); (try obtain ⟨s0, s1, s2⟩ := hSw); go_simp; try with_reducible rfl)
        (try simp only [Act.put, List.setIfInBounds_toArray, List.set_cons_zero, List.set_cons_succ])
        refine wpAnyH_take (i := 23) (oi := { dst := some 62, op := Op.load 37 (Operand.tmp 11), type := 37, pos := "law.go:203", after := #[{ on := 21, ground := Ground.guard }], guard := some (21, false) }) (v := (.slice gA na gcap)) rfl (by kernel_rfl) (by kernel_rfl) (by kernel_rfl) (fun _ _ _ h => h) (Or.inl ⟨by rfl, ?yc23⟩) (by assumption) ?qc23
        case yc23 => (intro w hSw; (try dsimp only at hSw); (try obtain ⟨s0, s1, s2⟩ := hSw); go_simp; try with_reducible rfl)
        (try simp only [Act.put, List.setIfInBounds_toArray, List.set_cons_zero, List.set_cons_succ])
        refine wpAnyH_take (i := 24) (oi := { dst := some 63, op := Op.load 37 (Operand.tmp 12), type := 37, pos := "law.go:203", after := #[{ on := 21, ground := Ground.guard }], guard := some (21, false) }) (v := (.slice hA ns hcap)) rfl (by kernel_rfl) (by kernel_rfl) (by kernel_rfl) (fun _ _ _ h => h) (Or.inl ⟨by rfl, ?yc24⟩) (by assumption) ?qc24
        case yc24 => (intro w hSw; (try dsimp only at hSw); (try obtain ⟨s0, s1, s2⟩ := hSw); go_simp; try with_reducible rfl)
        (try simp only [Act.put, List.setIfInBounds_toArray, List.set_cons_zero, List.set_cons_succ])
        refine wpAnyH_take (i := 25) (oi := { dst := some 64, op := Op.call { callee := Callee.builtin Builtin.len, args := #[Operand.tmp 63], argTypes := #[37] }, type := 3, pos := "law.go:203", after := #[{ on := 24, ground := Ground.data }, { on := 21, ground := Ground.guard }], guard := some (21, false) }) (v := (.int .i64 (ns : Int))) rfl (by kernel_rfl) (by kernel_rfl) (by kernel_rfl) (fun _ _ _ h => h) (Or.inl ⟨by rfl, ?yc25⟩) (by assumption) ?qc25
        case yc25 => (intro w hSw; (try dsimp only at hSw); (try obtain ⟨s0, s1, s2⟩ := hSw); go_simp; try with_reducible rfl)
        (try simp only [Act.put, List.setIfInBounds_toArray, List.set_cons_zero, List.set_cons_succ])
        refine wpAnyH_take (i := 26) (oi := { dst := some 65, op := Op.slice 37 (Operand.tmp 62) none (some (Operand.tmp 64)) none, type := 37, pos := "law.go:203", after := #[{ on := 23, ground := Ground.data }, { on := 25, ground := Ground.data }, { on := 21, ground := Ground.guard }], guard := some (21, false) }) (v := (.slice gA ns gcap)) rfl (by kernel_rfl) (by kernel_rfl) (by kernel_rfl) (fun _ _ _ h => h) (Or.inl ⟨by rfl, ?yc26⟩) (by assumption) ?qc26
        case yc26 => (intro w hSw; (try dsimp only at hSw); (try obtain ⟨s0, s1, s2⟩ := hSw); go_simp; try with_reducible rfl)
        (try simp only [Act.put, List.setIfInBounds_toArray, List.set_cons_zero, List.set_cons_succ])
        refine wpAnyH_ready (rs := [27]) (by kernel_rfl) (by simp) ?_
        refine AllReadyH.cons (o := { dst := some 66, op := Op.call { callee := Callee.value (Operand.func 23), args := #[Operand.tmp 61, Operand.tmp 65], argTypes := #[37, 37] }, type := 4, pos := "law.go:203", after := #[{ on := 22, ground := Ground.data }, { on := 26, ground := Ground.data }, { on := 21, ground := Ground.chain }, { on := 21, ground := Ground.guard }], guard := some (21, false) }) rfl (fun K hK => ?_) AllReadyH.nil
        go_simp
        have HE1 := hid (show EntV (w7.drewN nd) (· < (w7.drewN nd).heap.size) (.slice hA ns hcap) (l.ents.take ns) from HS7.out.2.2.2.1.keep ((Keeps.refl _ _).drewN nd) (fun q hq => hq))
        have HE2 := hid (show EntV (w7.drewN nd) (· < (w7.drewN nd).heap.size) (.slice gA ns gcap) (l.ents.take ns) from by
          have h9 := HS7.out.2.2.1
          rw [HNA.out] at h9
          exact (h9.take HNS.out).keep ((Keeps.refl _ _).drewN nd) (fun q hq => hq))
        refine (HSM.out _ _ _ (l.ents.take ns) HE1.out HE2.out).mono ?_
        rintro e w9 ⟨rfl, ne, rfl⟩
        go_wp2_with fail
        refine hK.out _ _ ⟨q0, q1, q2, q3, q4⟩ (fun hHeld => ?_)
        clear hK K
        (try simp only [Act.put, List.setIfInBounds_toArray, List.set_cons_zero, List.set_cons_succ])
        refine wpAnyH_take (i := 28) (oi := { dst := some 67, op := Op.unOp UnOp.not 4 (Operand.tmp 66), type := 4, pos := "law.go:203", after := #[{ on := 27, ground := Ground.data }, { on := 21, ground := Ground.guard }], guard := some (21, false) }) (v := .bool false) rfl (by kernel_rfl) (by kernel_rfl) (by kernel_rfl) (fun _ _ _ h => h) (Or.inl ⟨by rfl, ?yc28⟩) (by assumption) ?qc28
        case yc28 => (intro w hSw; (try dsimp only at hSw); (try obtain ⟨s0, s1, s2⟩ := hSw); go_simp; try with_reducible rfl)
        (try simp only [Act.put, List.setIfInBounds_toArray, List.set_cons_zero, List.set_cons_succ])
        refine wpAnyH_take (i := 29) (oi := { dst := some 68, op := Op.pick (Operand.tmp 60) (Operand.const (Value.bool true)) (Operand.tmp 67), type := 4, pos := "law.go:203", after := #[{ on := 21, ground := Ground.data }, { on := 28, ground := Ground.data }], guard := none }) (v := .bool false) rfl (by kernel_rfl) (by kernel_rfl) (by kernel_rfl) (fun _ _ _ h => h) (Or.inl ⟨by rfl, ?yc29⟩) (by assumption) ?qc29
        case yc29 => (intro w hSw; (try dsimp only at hSw); (try obtain ⟨s0, s1, s2⟩ := hSw); go_simp; try with_reducible rfl)
        (try simp only [Act.put, List.setIfInBounds_toArray, List.set_cons_zero, List.set_cons_succ])
        refine wpAnyH_done (by kernel_rfl) ?_ _
        obtain ⟨⟨μ7, hm7, hc7⟩, hk7, -, -, -, hz7⟩ := HS7.out
        have hz8 : (w7.drewN (nd + ne)).heap.size = w7.heap.size := rfl
        have hmf := hm7.keep ((Keeps.refl (· < w7.heap.size) w7).drewN (nd + ne)) hm7.obj.lt hm7.cells.lt
        have hkf : Keeps (· < c) w3 (w7.drewN (nd + ne)) := hk7.drewN (nd + ne)
        have Hmf := hid hmf
        have Hkf := hid hkf
        have Hc7 := hid hc7
        clear hmf hkf hc7
        clear hm7 hk7 HS7 q0 q1 q2 q3 q4 HSM HE1 HE2
        go_wp2_with fail
        go_roundw
        case rel => exact ⟨i + 1, μ7, by go_num, hlt, by omega, Hmf, Hc7, Hkf⟩
        case measure => first | (simp [intOf]; done) | (simp [intOf]; omega)
      · obtain rfl : i = ls.length := by omega
        have hltI : ¬ (ls.length : Int) < (ls.length : Int) := by omega
        have hs9 := HMr.out.cells.lt
        go_wp2_with fail
        refine (HF.out _).mono ?_
        rintro e wb ⟨rfl, hkb⟩
        have hkf := Hkk3.out.trans ((HKr.out.trans (hkb.mono fun q hq => by omega)).mono fun q hq => by omega)
        have Hkf := hid hkf
        clear hkf
        clear hkb
        go_wp2_with fail
        exact hR'.out _ _ ⟨rfl, Hkf.out⟩
end Go.Proofs.Ytbmgmjfpoepgpaa
