/- TableVersions: small facts for the walk. -/
import Derived.Test.YtjnaibmnpajfdaaVersC
namespace Go.Proofs.Ytjnaibmnpajfdaa
open Go.RowKit

structure ActM where
  kill : Bool
  i : Int
  id : Int
  ln : Int
def ActM.cells (x : ActM) : List Value := [.bool x.kill, .int .u8 x.i, .int .u32 x.id, .int .u32 x.ln]
def ActM.wf (x : ActM) : Prop := (0 ≤ x.i ∧ x.i ≤ 255) ∧ U32 x.id ∧ U32 x.ln

theorem flatA : ∀ (l : List ActM) (k : Nat) (x : ActM), l[k]? = some x →
    (l.flatMap ActM.cells)[k * 4]? = some (.bool x.kill) ∧ (l.flatMap ActM.cells)[k * 4 + 1]? = some (.int .u8 x.i) ∧ (l.flatMap ActM.cells)[k * 4 + 2]? = some (.int .u32 x.id) ∧ (l.flatMap ActM.cells)[k * 4 + 3]? = some (.int .u32 x.ln)
  | y :: l, 0, x, h => by
    simp at h; subst h; exact ⟨rfl, rfl, rfl, rfl⟩
  | y :: l, k + 1, x, h => by
    have ih := flatA l k x (by simpa using h)
    have e1 : (k + 1) * 4 = k * 4 + 4 := by omega
    rw [e1]
    exact ih
theorem SlAt.act {w : World} {K : Nat → Prop} {v : Value} {l : List ActM} (h : SlAt w K 4 v l.length (l.flatMap ActM.cells)) {k : Nat} {x : ActM} (hk : l[k]? = some x) :
    ∃ b off cap, v = .slice (some ⟨b, off, none⟩) l.length cap ∧ K b ∧
      w.cell? ⟨b, off + k * 4, none⟩ = some (.bool x.kill) ∧ w.cell? ⟨b, off + k * 4 + 1, none⟩ = some (.int .u8 x.i) ∧ w.cell? ⟨b, off + k * 4 + 2, none⟩ = some (.int .u32 x.id) ∧ w.cell? ⟨b, off + k * 4 + 3, none⟩ = some (.int .u32 x.ln) := by
  obtain ⟨A, cap, h1, h2, h3, h4, h5⟩ := h
  have hlt : k < l.length := (List.getElem?_eq_some_iff.1 hk).1
  obtain ⟨b, off, e, hb, hc⟩ := h5 (by omega)
  subst e
  obtain ⟨f0, f1, f2, f3⟩ := flatA l k x hk
  exact ⟨b, off, cap, h1, hb, hc _ _ f0, hc _ _ f1, hc _ _ f2, hc _ _ f3⟩

theorem change_cases (kill : Bool) (i id ln : Int) (rows : List RowM) (v : Int) (hB : Born rows v) (hv : 0 ≤ v) (hid : U32 id) (hln : U32 ln) :
    changeM kill i id ln rows v = (rows, v) ∨ ∃ rows', changeM kill i id ln rows v = (rows', v + 1) ∧ Born rows' (v + 1) ∧ ∀ k, k ≤ v → ∀ d, seenL rows' k d = seenL rows k d := by
  unfold changeM
  cases kill
  · rw [if_neg (by decide)]
    by_cases h : rows.length = 16
    · rw [if_pos h]; exact Or.inl rfl
    · rw [if_neg h]
      refine Or.inr ⟨_, rfl, fun x hx => ?_, fun k hk d => seenL_add rows k v d id ln hk⟩
      rcases List.mem_append.1 hx with hx | hx
      · obtain ⟨a, b, c, d, e⟩ := hB x hx; exact ⟨a, by omega, c, by omega, e⟩
      · simp at hx; subst hx; exact ⟨by show 1 ≤ v + 1; omega, Int.le_refl _, Int.le_refl _, by show (0 : Int) ≤ v + 1; omega, hid, hln⟩
  · rw [if_pos rfl]
    cases hx : rows[(i % rows.length).toNat]? with
    | none => exact Or.inl rfl
    | some x =>
      dsimp only
      by_cases ht : x.tomb = 0
      · rw [if_pos ht]
        refine Or.inr ⟨_, rfl, fun y hy => ?_, fun k hk d => seenL_kill rows k v d _ x hk hx ht hv⟩
        rcases List.mem_or_eq_of_mem_set hy with hy | hy
        · obtain ⟨a, b, c, d, e⟩ := hB y hy; exact ⟨a, by omega, c, by omega, e⟩
        · subst hy
          obtain ⟨a, b, c, d, e⟩ := hB x (List.mem_of_getElem? hx)
          exact ⟨a, by show x.birth ≤ v + 1; omega, by show (0 : Int) ≤ v + 1; omega, Int.le_refl _, e⟩
      · rw [if_neg ht]; exact Or.inl rfl

theorem Try.infoSl : (Try.prog.info? 68).map (fun i => (i.zero, i.size, i.bytes)) = some (some (.slice none 0 0), 1, 24) := by kernel_rfl

theorem own_type_ne {w : World} {e1 e2 s1 s2 n1 n2 : Nat} {v1 v2 : Value} {x1 x2 : List Value} (h1 : w.ownsRow 0 e1 s1 v1 n1 x1) (h2 : w.ownsRow 0 e2 s2 v2 n2 x2) (hne : e1 ≠ e2) : ∀ b, v1.ownBlock = some b → v2.ownBlock ≠ some b := by
  intro b hb hb'
  rcases h1.2 with ⟨rfl, _⟩ | ⟨g, cap, cur, rfl, _, hh, _⟩
  · cases hb
  · rcases h2.2 with ⟨rfl, _⟩ | ⟨g', cap', cur', rfl, _, hh', _⟩
    · cases hb'
    · simp only [Value.ownBlock, Option.some.injEq] at hb hb'
      subst hb
      subst hb'
      rw [hh] at hh'
      injection hh' with hh'
      injection hh' with _ ht
      exact hne ht

/-- the list of what the versions saw -/
structure SawAt (w : World) (ws m c : Nat) (sv : Value) (vs : List Value) (rows : List RowM) : Prop where
  own : w.ownsRow 0 68 1 sv vs.length vs
  sm : sv.ownBlock ≠ some m
  sc : sv.ownBlock ≠ some c
  fresh : ∀ b, sv.ownBlock = some b → ws ≤ b
  el : ∀ (j : Nat) (x : Value), vs[j]? = some x → w.ownsRow 0 105 3 x (seenL rows j 0).length ((seenL rows j 0).flatMap SeenM.cells) ∧ x.ownBlock ≠ some m ∧ x.ownBlock ≠ some c

theorem SawAt.keep {w w' : World} {ws m c : Nat} {sv : Value} {vs : List Value} {rows : List RowM} (h : SawAt w ws m c sv vs rows) (k : Keeps (oldK w m c) w w') : SawAt w' ws m c sv vs rows := by
  have key : ∀ {e sz n : Nat} {v : Value} {xs : List Value}, w.ownsRow 0 e sz v n xs → v.ownBlock ≠ some m → v.ownBlock ≠ some c → w'.ownsRow 0 e sz v n xs := by
    intro e sz n v xs hv h1 h2
    exact own_of_keep hv k fun b hb => ⟨(hv.lt b hb).2, fun e => h1 (e ▸ hb), fun e => h2 (e ▸ hb)⟩
  exact ⟨key h.own h.sm h.sc, h.sm, h.sc, h.fresh, fun j x hx => ⟨key (h.el j x hx).1 (h.el j x hx).2.1 (h.el j x hx).2.2, (h.el j x hx).2⟩⟩
theorem SawAt.rows {w : World} {ws m c : Nat} {sv : Value} {vs : List Value} {rows rows' : List RowM} (h : SawAt w ws m c sv vs rows) (v : Int) (hl : (vs.length : Int) ≤ v + 1) (he : ∀ k, k ≤ v → ∀ d, seenL rows' k d = seenL rows k d) : SawAt w ws m c sv vs rows' :=
  ⟨h.own, h.sm, h.sc, h.fresh, fun j x hx => by
    have hj := (List.getElem?_eq_some_iff.1 hx).1
    rw [he j (by omega) 0]; exact h.el j x hx⟩
theorem oldK_below {w w' : World} {m c : Nat} (h : Keeps (· < w.heap.size) w w') : Keeps (oldK w m c) w w' := h.mono fun _ hb => hb.1
end Go.Proofs.Ytjnaibmnpajfdaa
