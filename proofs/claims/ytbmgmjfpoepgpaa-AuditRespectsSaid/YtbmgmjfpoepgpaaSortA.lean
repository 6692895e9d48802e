/- Contracts: a row of ints; slices.swapRangeCmpFunc, rotateCmpFunc. -/
import Derived.Test.YtbmgmjfpoepgpaaChecked
import Derived.Test.YtbmgmjfpoepgpaaSl
import Derived.Test.YtbmgmjfpoepgpaaSortP
import Derived.BigRegion
import Derived.BigQuiet
import Derived.Deep.QuietTactic
namespace Go.Proofs.Ytbmgmjfpoepgpaa
open Go.RowKit

def iv (i : Nat) : Value := .int .i64 (i : Int)
/-- a block whose first cells are these numbers -/
def Row (w : World) (b : Nat) (xs : List Nat) : Prop := ∃ sp, Blk w b (xs.map iv ++ sp)
theorem Row.cell {w : World} {b : Nat} {xs : List Nat} (h : Row w b xs) {i x : Nat} (hi : xs[i]? = some x) : w.cell? ⟨b, i, none⟩ = some (.int .i64 (x : Int)) := by
  obtain ⟨sp, h⟩ := h
  have hl := (List.getElem?_eq_some_iff.1 hi).1
  rw [h.cell, List.getElem?_append_left (by simpa using hl), List.getElem?_map, hi]; rfl
theorem Row.free {w : World} {b : Nat} {xs : List Nat} (h : Row w b xs) (i : Nat) : w.frozen? ⟨b, i, none⟩ = false := let ⟨_, h⟩ := h; h.free i
theorem Row.lt {w : World} {b : Nat} {xs : List Nat} (h : Row w b xs) : b < w.heap.size := let ⟨_, h⟩ := h; h.lt
theorem Row.drew {w : World} {b : Nat} {xs : List Nat} (h : Row w b xs) : Row w.drew b xs := h
theorem Row.drewN {w : World} {b : Nat} {xs : List Nat} (h : Row w b xs) (n : Nat) : Row (w.drewN n) b xs := let ⟨sp, h⟩ := h; ⟨sp, h.drewN n⟩
theorem Row.set {w : World} {b : Nat} {xs : List Nat} (h : Row w b xs) (i x : Nat) (hi : i < xs.length) : Row (w.setCell ⟨b, i, none⟩ (.int .i64 (x : Int))) b (xs.set i x) := by
  obtain ⟨sp, h⟩ := h
  refine ⟨sp, ?_⟩
  have := h.set i (iv x)
  rw [List.set_append_left _ _ (by simpa using hi), ← List.map_set] at this
  exact this
theorem set_mid {α : Type} (A C : List α) (x y : α) : (A ++ x :: C).set A.length y = A ++ y :: C := by
  rw [List.set_append_right _ _ (Nat.le_refl _)]; simp
theorem Row.swap {w : World} {b : Nat} {A B C : List Nat} {x y : Nat} (h : Row w b (A ++ x :: B ++ y :: C)) {p q : Nat} (hp : p = A.length) (hq : q = A.length + 1 + B.length) :
    Row ((w.setCell ⟨b, p, none⟩ (.int .i64 (y : Int))).setCell ⟨b, q, none⟩ (.int .i64 (x : Int))) b (A ++ y :: B ++ x :: C) := by
  have h1 := (h.set p y (by simp; omega)).set q x (by simp; omega)
  have e1 : (A ++ x :: B ++ y :: C).set p y = A ++ y :: B ++ y :: C := by rw [List.append_assoc, hp]; simp
  have e2 : (A ++ y :: B ++ y :: C).set q x = A ++ y :: B ++ x :: C := by
    have e : q = (A ++ y :: B).length := by simp; omega
    rw [e]; exact set_mid (A ++ y :: B) C y x
  rw [e1, e2] at h1
  exact h1
theorem Row.swap' {w : World} {b : Nat} {A B C : List Nat} {x y : Nat} (h : Row w b (A ++ x :: B ++ y :: C)) {p q : Nat} (hp : p = A.length) (hq : q = A.length + 1 + B.length) :
    Row ((w.setCell ⟨b, q, none⟩ (.int .i64 (x : Int))).setCell ⟨b, p, none⟩ (.int .i64 (y : Int))) b (A ++ y :: B ++ x :: C) := by
  have h1 := (h.set q x (by simp; omega)).set p y (by simp; omega)
  have e2 : (A ++ x :: B ++ y :: C).set q x = A ++ x :: B ++ x :: C := by
    have e : q = (A ++ x :: B).length := by simp; omega
    rw [e]; exact set_mid (A ++ x :: B) C y x
  have e1 : (A ++ x :: B ++ x :: C).set p y = A ++ y :: B ++ x :: C := by rw [List.append_assoc, hp]; simp
  rw [e2, e1] at h1
  exact h1
/-- the facts that an exchange's region wants -/
theorem Row.facts {w : World} {b : Nat} {A B C : List Nat} {x y : Nat} (h : Row w b (A ++ x :: B ++ y :: C)) {p q : Nat} (hp : p = A.length) (hq : q = A.length + 1 + B.length) :
    w.cell? ⟨b, p, none⟩ = some (.int .i64 (x : Int)) ∧ w.cell? ⟨b, q, none⟩ = some (.int .i64 (y : Int)) ∧
    (∀ u, (w.setCell ⟨b, p, none⟩ u).cell? ⟨b, q, none⟩ = some (.int .i64 (y : Int))) ∧ (∀ u, (w.setCell ⟨b, q, none⟩ u).cell? ⟨b, p, none⟩ = some (.int .i64 (x : Int))) := by
  have c1 : w.cell? ⟨b, p, none⟩ = some (.int .i64 (x : Int)) := h.cell (by rw [hp, List.append_assoc, List.getElem?_append_right (Nat.le_refl _)]; simp)
  have c2 : w.cell? ⟨b, q, none⟩ = some (.int .i64 (y : Int)) := h.cell (by
    have e : q = (A ++ x :: B).length := by simp; omega
    rw [e, List.getElem?_append_right (Nat.le_refl _)]; simp)
  refine ⟨c1, c2, fun u => ?_, fun u => ?_⟩
  · rw [World.cell?_setCell_other _ _ _ _ (by intro e; simp only [Addr.mk.injEq] at e; omega)]; exact c2
  · rw [World.cell?_setCell_other _ _ _ _ (by intro e; simp only [Addr.mk.injEq] at e; omega)]; exact c1

theorem drop_get {l : List Nat} {j x : Nat} (h : l[j]? = some x) : l.drop j = x :: l.drop (j + 1) := by
  obtain ⟨h1, h2⟩ := List.getElem?_eq_some_iff.1 h
  rw [List.drop_eq_getElem_cons h1, h2]
theorem take_get {l : List Nat} {j x : Nat} (h : l[j]? = some x) : l.take (j + 1) = l.take j ++ [x] := by
  obtain ⟨h1, h2⟩ := List.getElem?_eq_some_iff.1 h
  rw [List.take_succ_eq_append_getElem h1, h2]
theorem Keeps.set2 {K : Nat → Prop} {w0 w : World} {b : Nat} (h : Keeps K w0 w) (hK : ¬ K b) (p q : Nat) (u v : Value) :
    Keeps K w0 ((w.setCell ⟨b, p, none⟩ u).setCell ⟨b, q, none⟩ v) := (h.setCell hK u).setCell hK v

set_option maxRecDepth 100000 in
set_option maxHeartbeats 2000000 in
theorem swap_range {w : World} {K : Nat → Prop} {b n cap p q k : Nat} {P U M V S : List Nat} (f : Value) (hR : Row w b (P ++ U ++ M ++ V ++ S)) (hK : ¬ K b)
    (hn : n = (P ++ U ++ M ++ V ++ S).length) (hp : p = P.length) (hq : q = P.length + U.length + M.length) (hk : k = U.length) (hV : V.length = U.length) (hbig : n ≤ 1099511627776) (hcap : n ≤ cap) (hcb : cap ≤ maxLen) :
    Calls Try.prog 63 #[.slice (some ⟨b, 0, none⟩) n cap, .int .i64 (p : Int), .int .i64 (q : Int), .int .i64 (k : Int), f] w fun e w' =>
      e = .returned (.tuple #[]) ∧ Row w' b (P ++ V ++ M ++ U ++ S) ∧ Keeps K w w' := by
  unfold maxLen at hcb
  have hlen : n = P.length + U.length + M.length + V.length + S.length := by rw [hn]; simp; omega
  have HR := hid hR
  have HP := hid (And.intro hp (And.intro hq (And.intro hk (And.intro hV hlen))))
  have hb1 : p + k ≤ n := by omega
  have hb2 : q + k ≤ n := by omega
  clear hR hp hq hk hV hlen hn
  refine calls_hide fun R' hR' => ?_
  go_enter Try.func63, Try.ntmps63
  go_wp2_with fail
  go_loopw [10] (fun i wr => ∃ j : Nat, i = .int .i64 (j : Int) ∧ j ≤ k ∧ Row wr b (P ++ (V.take j ++ U.drop j) ++ M ++ (U.take j ++ V.drop j) ++ S) ∧ Keeps K w wr) (fun i _ => k - (intOf i).toNat)
  case atStart => exact ⟨0, rfl, Nat.zero_le _, by simpa using HR.out, Keeps.refl _ _⟩
  case round =>
    obtain ⟨j, rfl, hj, hRj, hKj⟩ := hrel
    by_cases hlt : j < k
    · obtain ⟨hp, hq, hk, hV, hlen⟩ := HP.out
      obtain ⟨x, hx⟩ : ∃ x, U[j]? = some x := ⟨_, List.getElem?_eq_getElem (by omega)⟩
      obtain ⟨y, hy⟩ : ∃ y, V[j]? = some y := ⟨_, List.getElem?_eq_getElem (by omega)⟩
      have hRj' : Row wr b ((P ++ V.take j) ++ x :: (U.drop (j + 1) ++ M ++ U.take j) ++ y :: (V.drop (j + 1) ++ S)) := by
        rw [drop_get hx, drop_get hy] at hRj
        simpa [List.append_assoc] using hRj
      have hl1 : p + j = (P ++ V.take j).length := by simp; omega
      have hl2 : q + j = (P ++ V.take j).length + 1 + (U.drop (j + 1) ++ M ++ U.take j).length := by
        have := (List.getElem?_eq_some_iff.1 hx).1
        simp; omega
      obtain ⟨P1, hP1⟩ : ∃ a, a = p + j := ⟨_, rfl⟩
      obtain ⟨Q1, hQ1⟩ : ∃ a, a = q + j := ⟨_, rfl⟩
      rw [← hP1] at hl1
      rw [← hQ1] at hl2
      have hS := hRj'.swap hl1 hl2
      have hRel : Row ((wr.setCell ⟨b, P1, none⟩ (.int .i64 (y : Int))).setCell ⟨b, Q1, none⟩ (.int .i64 (x : Int))) b (P ++ (V.take (j + 1) ++ U.drop (j + 1)) ++ M ++ (U.take (j + 1) ++ V.drop (j + 1)) ++ S) := by
        rw [take_get hx, take_get hy]
        simpa [List.append_assoc] using hS
      obtain ⟨c1, c2, c3, _⟩ := hRj'.facts hl1 hl2
      have f1 := hRj'.free P1
      have f2 := hRj'.free Q1
      have HS := hid (And.intro hRel (hKj.set2 hK P1 Q1 (.int .i64 (y : Int)) (.int .i64 (x : Int))))
      clear hS hRj hRj' hl1 hl2 hKj hRel hx hy
      have c3 := c3 (.int .i64 (y : Int))
      have e1 : (p : Int) + (j : Int) = (P1 : Int) := by omega
      have e2 : (q : Int) + (j : Int) = (Q1 : Int) := by omega
      have i1 : (P1 : Int) < (n : Int) := by omega
      have i2 : (Q1 : Int) < (n : Int) := by omega
      have z0 : (j : Int) < (k : Int) := by omega
      generalize hX : (x : Int) = X at *
      generalize hY : (y : Int) = Y at *
      clear hX hY
      clear hp hq hk hV hlen hP1 hQ1
      go_wp2_with fail
      go_big_region
      go_wp2_with fail
      go_roundw
      case rel => exact ⟨j + 1, by go_num, by omega, HS.out.1.drew, HS.out.2.drew⟩
      case measure => simp [intOf]; omega
    · have hjk : j = k := by omega
      subst hjk
      go_wp2_with fail
      obtain ⟨hp, hq, hk, hV, hlen⟩ := HP.out
      go_end0
      refine hR'.out _ _ ⟨rfl, ?_, hKj⟩
      have e1 : V.take j = V := List.take_of_length_le (by omega)
      have e2 : U.take j = U := List.take_of_length_le (by omega)
      have e3 : V.drop j = [] := List.drop_of_length_le (by omega)
      have e4 : U.drop j = [] := List.drop_of_length_le (by omega)
      rw [e1, e2, e3, e4, List.append_nil, List.append_nil] at hRj
      exact hRj
end Go.Proofs.Ytbmgmjfpoepgpaa
