/- The kit's law of append on an owned row, with one fact more: the row stays in its block, or lies in a new one. -/
import Derived.Test.YtbepgbkbpkaodaaDoorJSl
import Derived.Maps.AppendAt
import Derived.Deep.DeepMust
namespace Go.Proofs.YtbepgbkbpkaodaaDoor
open Go.RowKit

section
variable {P : Program} {w : World}

theorem run_append_x (t ty e : TypeId) (i : TypeInfo) (z : Value) (size bytes : Nat) (ht : P.underlying t = some (.slice e)) (hi : P.info? e = some i) (hz : i.zero = some z)
    (hsize : i.size = size) (hby : i.bytes = bytes) (hzs : z.cells.size = size) (hsz : 0 < size)
    (v : Value) (n : Nat) (xs : List Value) (hown : w.ownsRow 0 e size v n xs)
    (a : Addr) (m c : Nat) (news : List Value) (hl : news.length = m * size) (hnews : ∀ j u, news[j]? = some u → w.cell? (a.add j) = some u) (h1 : ∀ u ∈ news, u.oneCell' = true)
    (h63 : n + m ≤ maxLen) (hbytes : (n + m) * bytes ≤ 140737488355328) :
    ∃ v' w', (Builtin.append_ #[t, t] ty #[v, .slice (some a) m c]).run P w = .ok v' w' ∧ w'.ownsRow 0 e size v' (n + m) (xs ++ news) ∧ w.grownBy w' v.ownBlock ∧
      (v' = .slice none 0 0 ↔ v = .slice none 0 0 ∧ m = 0) ∧ (v'.ownBlock = v.ownBlock ∨ ∃ b, v'.ownBlock = some b ∧ w.heap.size ≤ b) := by
  obtain ⟨v', w', hr, h2, h3, h4⟩ := run_append_own (P := P) w 0 t ty e i z size bytes ht hi hz hsize hby hzs hsz v n xs hown a m c news hl hnews h1 h63 hbytes (Nat.zero_le _)
  refine ⟨v', w', hr, h2, h3, h4, ?_⟩
  subst hsize
  subst hby
  have hsmall : n + m ≤ 9223372036854775807 := by simp only [maxLen] at h63; omega
  rcases hown.2 with ⟨rfl, rfl⟩ | ⟨g, cap, cur, rfl, hbg, hg, hnc, hcm, hcs, htake⟩
  · by_cases hm : m = 0
    · have := h4.2 ⟨rfl, hm⟩
      subst this
      exact Or.inl rfl
    · have hr' := run_append_nil (P := P) w t ty e i z ht hi hz a m c news hl hnews (by omega) (by omega) (by simp only [Nat.zero_add] at hbytes; omega)
      rw [hr'] at hr
      injection hr with e1 e2
      subst e1
      exact Or.inr ⟨_, rfl, Nat.le_refl _⟩
  · by_cases hroom : n + m ≤ cap
    · have hfit : n * i.size + news.length ≤ cur.size := by rw [hl, hcs, ← Nat.add_mul]; exact Nat.mul_le_mul_right _ hroom
      have hr' := run_append_room (P := P) w t ty e i ht hi g n cap cur hg a m c news hl hnews h1 hroom hfit
      rw [hr'] at hr
      injection hr with e1 e2
      subst e1
      exact Or.inl rfl
    · have holds : ∀ j u, xs[j]? = some u → w.cell? ((⟨g, 0, none⟩ : Addr).add j) = some u := hown.cells (g := g) rfl
      have hr' := run_append_grow (P := P) w t ty e i z ht hi hz ⟨g, 0, none⟩ n cap xs hown.1 holds a m c news hl hnews (by omega) (by omega) (growslice_fits (by omega) hbytes)
      rw [hr'] at hr
      injection hr with e1 e2
      subst e1
      exact Or.inr ⟨_, rfl, Nat.le_refl _⟩

theorem wp_append_x {o : Oper} {a : Act} {K : Act → World → Prop} {Q : Exit → Act → World → Prop} (s x : Operand) (t : TypeId)
    (ho : o.op = .call { callee := .builtin .append, args := #[s, x], argTypes := #[t, t] })
    (e : TypeId) (i : TypeInfo) (z : Value) (size bytes : Nat) (ht : P.underlying t = some (.slice e)) (hi : P.info? e = some i) (hz : i.zero = some z)
    (hsize : i.size = size) (hby : i.bytes = bytes) (hzs : z.cells.size = size) (hsz : 0 < size)
    (v : Value) (n : Nat) (xs : List Value) (hs : a.eval s = v) (hown : w.ownsRow 0 e size v n xs)
    (ad : Addr) (m c : Nat) (news : List Value) (hx : a.eval x = .slice (some ad) m c) (hl : news.length = m * size) (hnews : ∀ j u, news[j]? = some u → w.cell? (ad.add j) = some u) (h1 : ∀ u ∈ news, u.oneCell' = true)
    (h63 : n + m ≤ maxLen) (hbytes : (n + m) * bytes ≤ 140737488355328)
    (h : ∀ v' w', w'.ownsRow 0 e size v' (n + m) (xs ++ news) → w.grownBy w' v.ownBlock → (v'.ownBlock = v.ownBlock ∨ ∃ b, v'.ownBlock = some b ∧ w.heap.size ≤ b) → K (a.put o.dst v') w') : o.wp P a w K Q := by
  obtain ⟨v', w', hr, h2, h3, _, h4⟩ := run_append_x (P := P) (w := w) t o.type e i z size bytes ht hi hz hsize hby hzs hsz v n xs hown ad m c news hl hnews h1 h63 hbytes
  unfold Oper.wp execOp
  simp only [ho, resolve, invoke, builtin, Sem.run_bind, Sem.run_pure, Result.andThen_ok, List.map_toArray, List.map_cons, List.map_nil, hs, hx, hr]
  exact h v' w' h2 h3 h4

theorem wpList_append_x {ops : Array Oper} {rest : List Oper} {o : Oper} {a : Act} {Q : Exit → Act → World → Prop} (hgd : o.guard = none) (s x : Operand) (t : TypeId)
    (ho : o.op = .call { callee := .builtin .append, args := #[s, x], argTypes := #[t, t] })
    (e : TypeId) (i : TypeInfo) (z : Value) (size bytes : Nat) (ht : P.underlying t = some (.slice e)) (hi : P.info? e = some i) (hz : i.zero = some z)
    (hsize : i.size = size) (hby : i.bytes = bytes) (hzs : z.cells.size = size) (hsz : 0 < size)
    (v : Value) (n : Nat) (xs : List Value) (hs : a.eval s = v) (hown : w.ownsRow 0 e size v n xs)
    (ad : Addr) (m c : Nat) (news : List Value) (hx : a.eval x = .slice (some ad) m c) (hl : news.length = m * size) (hnews : ∀ j u, news[j]? = some u → w.cell? (ad.add j) = some u) (h1 : ∀ u ∈ news, u.oneCell' = true)
    (h63 : n + m ≤ maxLen) (hbytes : (n + m) * bytes ≤ 140737488355328)
    (h : ∀ v' w', w'.ownsRow 0 e size v' (n + m) (xs ++ news) → w.grownBy w' v.ownBlock → (v'.ownBlock = v.ownBlock ∨ ∃ b, v'.ownBlock = some b ∧ w.heap.size ≤ b) → wpList P ops Q rest (a.put o.dst v') w') : wpList P ops Q (o :: rest) a w :=
  wpList_plain hgd fun _ hK => wp_append_x s x t ho e i z size bytes ht hi hz hsize hby hzs hsz v n xs hs hown ad m c news hx hl hnews h1 h63 hbytes fun v' w' h2 h3 h4 => hK _ _ (h v' w' h2 h3 h4)
end
end Go.Proofs.YtbepgbkbpkaodaaDoor

/- Own rows that grow: what is kept, what lies where. No function of the dump is named here. -/
namespace Go.Proofs.YtbepgbkbpkaodaaDoor
open Go.RowKit

theorem info_partsF {P : Program} {t : TypeId} {z : Value} {a b : Nat} (h : (P.info? t).map (fun i => (i.zero, i.size, i.bytes)) = some (some z, a, b)) : ∃ i, P.info? t = some i ∧ i.zero = some z ∧ i.size = a ∧ i.bytes = b := by
  obtain ⟨i, h1, h2⟩ := Option.map_eq_some_iff.1 h
  simp only [Prod.mk.injEq] at h2
  exact ⟨i, h1, h2.1, h2.2.1, h2.2.2⟩
def NewRow (w0 w : World) (E : TypeId) (f : Int → Value) (v : Value) (xs : List Int) : Prop := w.ownsRow w0.heap.size E 1 v xs.length (xs.map f) ∧ Keeps (· < w0.heap.size) w0 w
theorem NewRow.empty (w : World) (E T : TypeId) (f : Int → Value) (hT : T = E) : NewRow w (w.alloc (.cells #[] T)) E f (.slice (some ⟨w.heap.size, 0, none⟩) 0 0) [] :=
  ⟨⟨rfl, Or.inr ⟨w.heap.size, 0, #[], rfl, Nat.le_refl _, by rw [heap_alloc_new, hT], Nat.le_refl _, Nat.zero_le _, rfl, rfl⟩⟩, (Keeps.refl _ _).alloc (fun b hb => hb) _⟩
theorem ownB_form {w : World} {B E n sz : Nat} {v : Value} {xs : List Value} (h : w.ownsRow B E sz v n xs) : ∃ A cp, v = .slice A n cp := by
  rcases h.2 with ⟨h1, h2⟩ | ⟨b, cap, _, h1, _⟩
  · exact ⟨_, _, by rw [h1, h2]⟩
  · exact ⟨_, _, h1⟩
theorem ownB_lt {w : World} {B E n sz : Nat} {v : Value} {xs : List Value} (h : w.ownsRow B E sz v n xs) {b : Nat} (hb : v.ownBlock = some b) : B ≤ b ∧ b < w.heap.size := by
  rcases h.2 with ⟨h1, _⟩ | ⟨g, cap, cur, h1, h2, h3, _⟩
  · rw [h1] at hb; cases hb
  · rw [h1] at hb
    have : g = b := by simpa [Value.ownBlock] using hb
    subst this
    exact ⟨h2, (Array.getElem?_eq_some_iff.1 h3).1⟩
theorem ownB_keep {w w' : World} {B E n sz : Nat} {v : Value} {xs : List Value} {K : Nat → Prop} (h : w.ownsRow B E sz v n xs) (k : Keeps K w w') (hK : ∀ b, B ≤ b → b < w.heap.size → v.ownBlock = some b → K b) : w'.ownsRow B E sz v n xs := by
  refine ⟨h.1, ?_⟩
  rcases h.2 with h1 | ⟨g, cap, cur, h1, h2, h3, h4⟩
  · exact Or.inl h1
  · have hb : v.ownBlock = some g := by rw [h1]; rfl
    exact Or.inr ⟨g, cap, cur, h1, h2, by rw [k.block g (hK g h2 (ownB_lt h hb).2 hb)]; exact h3, h4⟩
theorem ownB_slAt {w : World} {B E n : Nat} {v : Value} {xs : List Value} (h : w.ownsRow B E 1 v n xs) : SlAt w (fun b => B ≤ b ∧ b < w.heap.size) 1 v n xs := by
  have hl := h.1
  rcases h.2 with ⟨h1, h2⟩ | ⟨b, cap, cur, h1, h0, h3, h4, h5, h6, h7⟩
  · exact ⟨none, 0, by rw [h1, h2], by omega, Nat.zero_le _, hl, fun hn => by omega⟩
  · refine ⟨some ⟨b, 0, none⟩, cap, h1, h4, h5, hl, fun hn => ⟨b, 0, rfl, ownB_lt h (by rw [h1]; rfl), fun j u hu => ?_⟩⟩
    have := h.cells (g := b) (by rw [h1]; rfl) j u hu
    have ea : (⟨b, 0, none⟩ : Addr).add j = ⟨b, j, none⟩ := by unfold Addr.add; split <;> simp_all
    rw [Nat.zero_add, ← ea]; exact this
theorem keeps_grown {w0 w w' : World} {B : Nat} {v : Value} {E n sz : Nat} {xs : List Value} (hk : Keeps (· < B) w0 w) (hB : B ≤ w.heap.size) (h : w.ownsRow B E sz v n xs) (hg : w.grownBy w' v.ownBlock) : Keeps (· < B) w0 w' :=
  hk.trans ⟨hg.os, hg.tape, hg.output, hg.size, fun b hb => hg.block b (by omega) (fun e => by have := (ownB_lt h e.symm).1; omega)⟩
theorem NewRow.push {w0 wr w' : World} {E T : TypeId} {f : Int → Value} {v v' : Value} {acc : List Int} {x : Int} (h : NewRow w0 wr E f v acc) (hown : w'.ownsRow w0.heap.size E 1 v' (acc.length + 1) (acc.map f ++ [f x])) (hg : (wr.alloc (.cells #[f x] T)).grownBy w' v.ownBlock) : NewRow w0 w' E f v' (acc ++ [x]) := by
  refine ⟨by simpa using hown, ?_⟩
  have hB := h.2.size
  exact keeps_grown (h.2.alloc (fun b hb => by omega) _) (by simp; omega) (h.1.alloc _) hg
theorem NewRow.app {w0 wr w2 w' : World} {E : TypeId} {f : Int → Value} {v v' : Value} {acc ys : List Int} (h : NewRow w0 wr E f v acc) (k2 : Keeps (· < wr.heap.size) wr w2) (hown : w'.ownsRow w0.heap.size E 1 v' (acc.length + ys.length) (acc.map f ++ ys.map f)) (hg : w2.grownBy w' v.ownBlock) : NewRow w0 w' E f v' (acc ++ ys) := by
  refine ⟨by simpa using hown, ?_⟩
  have hB := h.2.size
  have hB2 := k2.size
  exact keeps_grown (h.2.trans (k2.mono fun b hb => by omega)) (by omega) (ownB_keep h.1 k2 (fun b _ hb _ => hb)) hg
theorem own_news {w : World} {B E n : Nat} {g : Nat} {cap : Nat} {xs : List Value} (h : w.ownsRow B E 1 (.slice (some ⟨g, 0, none⟩) n cap) n xs) : ∀ j u, xs[j]? = some u → w.cell? ((⟨g, 0, none⟩ : Addr).add j) = some u := fun j u hu => h.cells (g := g) rfl j u hu
theorem ownB_pos {w : World} {B E n : Nat} {v : Value} {xs : List Value} (h : w.ownsRow B E 1 v n xs) (hn : 0 < n) : ∃ g cap, v = .slice (some ⟨g, 0, none⟩) n cap := by
  rcases h.2 with ⟨_, h2⟩ | ⟨g, cap, _, h1, _⟩
  · omega
  · exact ⟨g, cap, h1⟩
structure Two (B : Nat) (w0 w : World) (E1 : TypeId) (s1 : Nat) (v1 : Value) (n1 : Nat) (xs1 : List Value) (E2 : TypeId) (s2 : Nat) (v2 : Value) (n2 : Nat) (xs2 : List Value) : Prop where
  o1 : w.ownsRow B E1 s1 v1 n1 xs1
  o2 : w.ownsRow B E2 s2 v2 n2 xs2
  ne : ∀ y, v1.ownBlock = some y → v2.ownBlock ≠ some y
  keeps : Keeps (· < B) w0 w
  le : B ≤ w.heap.size
theorem ownB_keepS {w w' : World} {B : Nat} {E : TypeId} {n sz : Nat} {v : Value} {xs : List Value} (h : w.ownsRow B E sz v n xs) (k : Keeps (· < w.heap.size) w w') : w'.ownsRow B E sz v n xs := ownB_keep h k fun b _ hb _ => hb
theorem own_grown {w w' : World} {B : Nat} {E : TypeId} {n sz : Nat} {v : Value} {xs : List Value} {o : Option Nat} (h : w.ownsRow B E sz v n xs) (hg : w.grownBy w' o) (hne : ∀ y, v.ownBlock = some y → o ≠ some y) : w'.ownsRow B E sz v n xs :=
  ownB_keep (K := fun b => b < w.heap.size ∧ some b ≠ o) h ⟨hg.os, hg.tape, hg.output, hg.size, fun b hb => hg.block b hb.1 hb.2⟩ fun b _ hb ho => ⟨hb, fun e => hne b ho e.symm⟩
theorem own_lit (w : World) (B : Nat) (E T : TypeId) (sz n : Nat) (xs : List Value) (hT : T = E) (hn : xs.length = n * sz) (hm : n ≤ maxLen) (hB : B ≤ w.heap.size) : (w.alloc (.cells xs.toArray T)).ownsRow B E sz (.slice (some ⟨w.heap.size, 0, none⟩) n n) n xs :=
  ⟨hn, Or.inr ⟨w.heap.size, n, xs.toArray, rfl, hB, by rw [heap_alloc_new, hT], Nat.le_refl _, hm, by simpa using hn, by simp [List.take_of_length_le (show xs.length ≤ n * sz by omega)]⟩⟩
section
variable {B : Nat} {w0 w w2 w' : World} {E1 E2 : TypeId} {s1 s2 n1 n2 n' : Nat} {v1 v2 v' : Value} {xs1 xs2 ys : List Value}
theorem Two.swap (h : Two B w0 w E1 s1 v1 n1 xs1 E2 s2 v2 n2 xs2) : Two B w0 w E2 s2 v2 n2 xs2 E1 s1 v1 n1 xs1 := ⟨h.o2, h.o1, fun y h1 h2 => h.ne y h2 h1, h.keeps, h.le⟩
end
section
variable {B : Nat} {w0 w w2 w' : World} {E1 E2 : TypeId} {s1 s2 n1 n2 n' : Nat} {v1 v2 v' : Value} {xs1 xs2 ys : List Value}
theorem Two.calls (h : Two B w0 w E1 s1 v1 n1 xs1 E2 s2 v2 n2 xs2) (k : Keeps (· < w.heap.size) w w2) : Two B w0 w2 E1 s1 v1 n1 xs1 E2 s2 v2 n2 xs2 :=
  ⟨ownB_keepS h.o1 k, ownB_keepS h.o2 k, h.ne, h.keeps.trans (k.mono fun b hb => by have := h.le; omega), Nat.le_trans h.le k.size⟩
end
section
variable {B : Nat} {w0 w w2 w' : World} {E1 E2 : TypeId} {s1 s2 n1 n2 n' : Nat} {v1 v2 v' : Value} {xs1 xs2 ys : List Value}
theorem Two.alloc (h : Two B w0 w E1 s1 v1 n1 xs1 E2 s2 v2 n2 xs2) (c : Obj) : Two B w0 (w.alloc c) E1 s1 v1 n1 xs1 E2 s2 v2 n2 xs2 := h.calls ((Keeps.refl _ _).alloc (fun b hb => hb) _)
end
section
variable {B : Nat} {w0 w w2 w' : World} {E1 E2 : TypeId} {s1 s2 n1 n2 n' : Nat} {v1 v2 v' : Value} {xs1 xs2 ys : List Value}
theorem Two.app (h : Two B w0 w2 E1 s1 v1 n1 xs1 E2 s2 v2 n2 xs2) (hown : w'.ownsRow B E1 s1 v' n' ys) (hg : w2.grownBy w' v1.ownBlock) (hf : v'.ownBlock = v1.ownBlock ∨ v'.ownBlock = some w2.heap.size) : Two B w0 w' E1 s1 v' n' ys E2 s2 v2 n2 xs2 := by
  refine ⟨hown, own_grown h.o2 hg (fun y h1 h2 => h.ne y h2 h1), ?_, keeps_grown h.keeps h.le h.o1 hg, Nat.le_trans h.le hg.size⟩
  intro y hy
  rcases hf with e | e
  · exact h.ne y (by rw [← e]; exact hy)
  · intro h2
    rw [e] at hy; injection hy with hy
    have := (ownB_lt h.o2 h2).2
    omega
end
theorem one1 (k : IntKind) (x : Int) : ∀ u ∈ [Value.int k x], u.oneCell' = true := by intro u hu; rcases List.mem_singleton.1 hu with rfl; rfl
theorem oneM (k : IntKind) (xs : List Int) : ∀ u ∈ xs.map (Value.int k), u.oneCell' = true := by intro u hu; obtain ⟨x, _, rfl⟩ := List.mem_map.1 hu; rfl
theorem one2 (k : IntKind) (x y : Int) : ∀ u ∈ [Value.int k x, Value.int k y], u.oneCell' = true := oneM k [x, y]
theorem one4 (k : IntKind) (x y z t : Int) : ∀ u ∈ [Value.int k x, Value.int k y, Value.int k z, Value.int k t], u.oneCell' = true := oneM k [x, y, z, t]
theorem ownB_slAtS {w : World} {B : Nat} {E : TypeId} {n sz : Nat} {v : Value} {xs : List Value} (h : w.ownsRow B E sz v n xs) : SlAt w (fun b => B ≤ b ∧ b < w.heap.size) sz v n xs := by
  have hl := h.1
  rcases h.2 with ⟨h1, h2⟩ | ⟨b, cap, cur, h1, h0, h3, h4, h5, h6, h7⟩
  · exact ⟨none, 0, by rw [h1, h2], by omega, Nat.zero_le _, hl, fun hn => by omega⟩
  · refine ⟨some ⟨b, 0, none⟩, cap, h1, h4, h5, hl, fun hn => ⟨b, 0, rfl, ownB_lt h (by rw [h1]; rfl), fun j u hu => ?_⟩⟩
    have := h.cells (g := b) (by rw [h1]; rfl) j u hu
    have ea : (⟨b, 0, none⟩ : Addr).add j = ⟨b, j, none⟩ := by unfold Addr.add; split <;> simp_all
    rw [Nat.zero_add, ← ea]; exact this
theorem own_newsS {w : World} {B E n sz : Nat} {g : Nat} {cap : Nat} {xs : List Value} (h : w.ownsRow B E sz (.slice (some ⟨g, 0, none⟩) n cap) n xs) : ∀ j u, xs[j]? = some u → w.cell? ((⟨g, 0, none⟩ : Addr).add j) = some u := fun j u hu => h.cells (g := g) rfl j u hu
theorem ownB_posS {w : World} {B E n sz : Nat} {v : Value} {xs : List Value} (h : w.ownsRow B E sz v n xs) (hn : 0 < n) : ∃ g cap, v = .slice (some ⟨g, 0, none⟩) n cap := by
  rcases h.2 with ⟨_, h2⟩ | ⟨g, cap, _, h1, _⟩
  · omega
  · exact ⟨g, cap, h1⟩
theorem results_tmp4 {fn : Func} {t u v x : Tmp} (h : fn.results = #[.tmp t, .tmp u, .tmp v, .tmp x]) (tmps : Array Value) (P : Program) (w : World) :
    (results fn tmps).run P w = .ok (.tuple #[tmps.getD t undef, tmps.getD u undef, tmps.getD v undef, tmps.getD x undef]) w := by
  simp [results, h]
theorem blk_grown {w w1 : World} {b : Nat} {xs : List Value} {o : Option Nat} (h : Blk w b xs) (hg : w.grownBy w1 o) (hne : o ≠ some b) : Blk w1 b xs :=
  h.keep (K := fun x => x < w.heap.size ∧ some x ≠ o) ⟨hg.os, hg.tape, hg.output, hg.size, fun x hx => hg.block x hx.1 hx.2⟩ ⟨h.lt, fun e => hne e.symm⟩
theorem own_slAtL {w : World} {B : Nat} {E : TypeId} {n sz : Nat} {v : Value} {xs : List Value} (h : w.ownsRow B E sz v n xs) : SlAt w (fun b => v.ownBlock = some b) sz v n xs := by
  have hl := h.1
  rcases h.2 with ⟨h1, h2⟩ | ⟨b, cap, cur, h1, h0, h3, h4, h5, h6, h7⟩
  · exact ⟨none, 0, by rw [h1, h2], by omega, Nat.zero_le _, hl, fun hn => by omega⟩
  · refine ⟨some ⟨b, 0, none⟩, cap, h1, h4, h5, hl, fun hn => ⟨b, 0, rfl, by rw [h1]; rfl, fun j u hu => ?_⟩⟩
    have := h.cells (g := b) (by rw [h1]; rfl) j u hu
    have ea : (⟨b, 0, none⟩ : Addr).add j = ⟨b, j, none⟩ := by unfold Addr.add; split <;> simp_all
    rw [Nat.zero_add, ← ea]; exact this
theorem SlAt.of_blkS {w : World} {K : Nat → Prop} {b n sz : Nat} {xs : List Value} (h : Blk w b xs) (hK : K b) (hl : xs.length = n * sz) (hn : n ≤ maxLen) : SlAt w K sz (.slice (some ⟨b, 0, none⟩) n n) n xs :=
  ⟨_, _, rfl, Nat.le_refl _, hn, hl, fun _ => ⟨b, 0, rfl, hK, fun j u hu => by rw [Nat.zero_add, h.cell]; exact hu⟩⟩
end Go.Proofs.YtbepgbkbpkaodaaDoor
