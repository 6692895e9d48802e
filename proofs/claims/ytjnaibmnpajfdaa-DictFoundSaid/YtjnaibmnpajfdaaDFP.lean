/- DictFound, plain: a map that holds what a table holds. -/
import Derived.Test.YtjnaibmnpajfdaaLawDF
import Derived.Maps.RangeWalk
import Derived.Maps.OwnOps
import Derived.Maps.Ext
namespace Go.Proofs.Ytjnaibmnpajfdaa
open Go.RowKit Go.Maps

def kLit (t : ByteArray) : Lit := .string t.data.toList
theorem kLit_inj {s t : ByteArray} (h : kLit s = kLit t) : s = t := by
  unfold kLit at h
  injection h with h
  have h2 : s.data = t.data := Array.toList_inj.1 h
  cases s; cases t; simp_all
def tabVal (T : Tab) (t : ByteArray) : Int := (probe T 16 (homeD 16 (bsL t)) (bsL t) 16 0).1
theorem tabVal_of {T : Tab} (W : WF T 16 (homeD 16)) {t : ByteArray} {i a : Nat} (hi : i < 16) (e : T i = some (bsL t, a)) : tabVal T t = a := by
  unfold tabVal; rw [probe_complete W hi e]
theorem tabVal_cases {T : Tab} (W : WF T 16 (homeD 16)) (t : ByteArray) : (tabVal T t = 0 ∧ ∀ i a, i < 16 → T i ≠ some (bsL t, a)) ∨ ∃ i a : Nat, i < 16 ∧ T i = some (bsL t, a) ∧ 0 < a ∧ tabVal T t = a := by
  by_cases h : tabVal T t = 0
  · refine Or.inl ⟨h, fun i a hi e => ?_⟩
    have := tabVal_of W hi e
    have := W.pos i _ _ hi e
    omega
  · unfold tabVal at h
    obtain ⟨x, y, hp⟩ : ∃ x y, probe T 16 (homeD 16 (bsL t)) (bsL t) 16 0 = (x, y) := ⟨_, _, rfl⟩
    rw [hp] at h
    obtain ⟨j, a, hj, e, _, _⟩ := probe_sound hp h (by decide)
    exact Or.inr ⟨j, a, hj, e, W.pos j _ _ hj e, tabVal_of W hj e⟩
theorem tabVal_put {T : Tab} (W : WF T 16 (homeD 16)) {t t' : ByteArray} {sl a : Nat} (hs : T sl = none) (W' : WF (T.put sl (bsL t, a)) 16 (homeD 16)) (hne : t' ≠ t) : tabVal (T.put sl (bsL t, a)) t' = tabVal T t' := by
  rcases tabVal_cases W t' with ⟨h, hn⟩ | ⟨i, b, hi, e, _, h⟩
  · rcases tabVal_cases W' t' with ⟨h', _⟩ | ⟨i, b, hi, e, _, _⟩
    · rw [h, h']
    · by_cases hsl : i = sl
      · subst hsl
        rw [Tab.put_self] at e
        injection e with e; injection e with e _
        exact absurd (bsL_inj e).symm hne
      · rw [Tab.put_ne _ _ hsl] at e
        exact absurd e (hn i b hi)
  · rw [h, tabVal_of W' hi (Tab.put_le hs _ _ e)]

def dI (x : Int) : DataW Unit := .lit (.int .i64 x)
structure MapTab (D : DataW Unit) (T : Tab) : Prop where
  isMap : IsMap D
  val : ∀ t : ByteArray, D.atKey (kLit t) (dI 0) = dI (tabVal T t)
  has : ∀ kl, Maps.has D kl = true → ∃ t : ByteArray, kl = kLit t ∧ tabVal T t ≠ 0
theorem MapTab.empty : MapTab (.map []) (fun _ => none) :=
  ⟨isMap_empty, fun t => by unfold tabVal; rw [probe_void (by decide)]; rfl, fun kl h => by simp [Maps.has] at h⟩
theorem MapTab.put {D : DataW Unit} {T : Tab} (M : MapTab D T) (W : WF T 16 (homeD 16)) {t : ByteArray} {sl a : Nat} (hsl : sl < 16) (hs : T sl = none) (W' : WF (T.put sl (bsL t, a)) 16 (homeD 16)) (ha : 0 < a) :
    MapTab (D.put (kLit t) (dI a)) (T.put sl (bsL t, a)) := by
  have hself : tabVal (T.put sl (bsL t, a)) t = a := tabVal_of W' hsl (Tab.put_self _ _ _)
  refine ⟨M.isMap.put _ _, fun t' => ?_, fun kl h => ?_⟩
  · by_cases e : t' = t
    · subst e
      rw [atKey_put_same M.isMap (show WideAt.IsKeyLit (kLit t') from trivial), hself]
    · rw [atKey_put_other (fun h => e (kLit_inj h)), M.val, tabVal_put W hs W' e]
  · by_cases e : kl = kLit t
    · exact ⟨t, e, by rw [hself]; omega⟩
    · rw [has_put_other e] at h
      obtain ⟨t', e', hv⟩ := M.has kl h
      refine ⟨t', e', ?_⟩
      rw [tabVal_put W hs W' (fun h => e (by rw [e', h]))]
      exact hv

theorem keyOf_string_inv {P : Program} {k : TypeId} (hk : P.underlying k = some .string) {key : Value} {kl : Lit} (h : keyOf P k key = some kl) : ∃ s : ByteArray, key = .string s ∧ kl = kLit s := by
  cases key <;> simp [keyOf, hk, mapKey] at h
  obtain ⟨_, rfl⟩ := h
  exact ⟨_, rfl, rfl⟩

theorem keyL {P : Program} {k : TypeId} (hk : P.underlying k = some .string) {x : ByteArray} (h : x.size ≤ maxLen) : keyOf P k (.string x) = some (kLit x) := by
  simp [keyOf, hk, mapKey, kLit, h]

theorem Keeps.ownsMap {K : Nat → Prop} {w w' : World} {P : Program} {k : TypeId} {R : Value → Option (DataW Unit × List MemPlace)} {b n : Nat} {D : DataW Unit} (h : Keeps K w w') (hb : K b) (ho : w.ownsMap P k R b n D) : w'.ownsMap P k R b n D := by
  obtain ⟨es, clock, h1, h2, h3, h4⟩ := ho
  exact ⟨es, clock, (h.block b hb).trans h1, h2, h3, h4⟩
theorem Keeps.rangesK {K : Nat → Prop} {w w' : World} {P : Program} {k : TypeId} {R : Value → Option (DataW Unit × List MemPlace)} {b r n : Nat} {D : DataW Unit} {left : Lit → Bool} {cnt : Nat} (h : Keeps K w w') (hb : K b) (hr : K r) (ho : w.ranges P k R b r n D left cnt) : w'.ranges P k R b r n D left cnt := by
  obtain ⟨es, clock, since, seen, c0, h1, h2, h3, h4, h5, h6⟩ := ho
  exact ⟨es, clock, since, seen, c0, (h.block b hb).trans h1, h2, h3, h4, (h.block r hr).trans h5, h6⟩
theorem grown_keeps {w w' : World} {row : Option Nat} (h : w.grownBy w' row) : Keeps (fun b => b < w.heap.size ∧ some b ≠ row) w w' := ⟨h.os, h.tape, h.output, h.size, fun b hb => h.block b hb.1 hb.2⟩
theorem wpList_gen {P : Program} {ops : Array Oper} {rest : List Oper} {a : Act} {Q : Exit → Act → World → Prop} {w : World} (F : World → Prop) (hw : F w) (h : ∀ w', F w' → wpList P ops Q rest a w') : wpList P ops Q rest a w := h w hw
theorem zeroI (w : World) : (zeroValue 3).run Try.prog w = .ok (.int .i64 0) w := by kernel_rfl
theorem lawS : Keyed Try.prog 9 := string_keyed Try.underlying9
end Go.Proofs.Ytjnaibmnpajfdaa
