/- Contracts of package pool: Class, Slab; of package post: next. Printed by gen/poolc.py. -/
import Derived.Test.YtbmgmjfpoepgpaaDoorPool
import Derived.Test.YtbmgmjfpoepgpaaDoorBlk
import Derived.Deep.QuietTactic
import Derived.BigRegion
namespace Go.Proofs.YtbmgmjfpoepgpaaDoor
open Go.RowKit

/-- the package's table of sizes lies in its block -/
def Tab (w : World) : Prop := w.cell? ⟨0, 0, none⟩ = some (.int .i64 4) ∧ w.cell? ⟨0, 1, none⟩ = some (.int .i64 16) ∧ w.cell? ⟨0, 2, none⟩ = some (.int .i64 64) ∧ w.cell? ⟨0, 3, none⟩ = some (.int .i64 256) ∧ 0 < w.heap.size
theorem Tab.keep {w w' : World} {K : Nat → Prop} (h : Tab w) (k : Keeps K w w') (h0 : K 0) : Tab w' := by
  obtain ⟨h1, h2, h3, h4, h5⟩ := h
  have e := fun i => World.cell?_of_block (a := ⟨0, i, none⟩) (k.block 0 h0)
  exact ⟨(e 0).trans h1, (e 1).trans h2, (e 2).trans h3, (e 3).trans h4, Nat.lt_of_lt_of_le h5 k.size⟩
def szK : Nat → Int
  | 0 => 4
  | 1 => 16
  | 2 => 64
  | _ => 256
def PlanM.bK (p : PlanM) : Nat → Int
  | 0 => p.base.a0
  | 1 => p.base.a1
  | 2 => p.base.a2
  | _ => p.base.a3
def PlanM.sK (p : PlanM) : Nat → Int
  | 0 => p.size.a0
  | 1 => p.size.a1
  | 2 => p.size.a2
  | _ => p.size.a3
/-- a class holds an address -/
def PlanM.has (p : PlanM) (k : Nat) (a : Int) : Prop := p.bK k ≤ a ∧ a - p.bK k < p.sK k
instance (p : PlanM) (k : Nat) (a : Int) : Decidable (p.has k a) := by unfold PlanM.has; infer_instance
def PlanM.cls (p : PlanM) (a : Int) : Int × Int :=
  if p.has 0 a then (0, (a - p.bK 0) % 4) else if p.has 1 a then (1, (a - p.bK 1) % 16) else if p.has 2 a then (2, (a - p.bK 2) % 64) else if p.has 3 a then (3, (a - p.bK 3) % 256) else (-1, 0)
/-- where the pools of slabs lie -/
structure PlanM.Wf (p : PlanM) : Prop where
  b : ∀ k, 0 ≤ p.bK k ∧ p.bK k ≤ 65536
  s : ∀ k, 0 ≤ p.sK k ∧ p.sK k ≤ 65536
theorem PlanM.cls_at (p : PlanM) (a : Int) (k : Nat) (hk : k ≤ 3) (h0 : ∀ j, j < k → ¬ p.has j a) (h : p.has k a) : p.cls a = ((k : Int), (a - p.bK k) % szK k) := by
  unfold PlanM.cls
  match k, hk with
  | 0, _ => rw [if_pos h]; rfl
  | 1, _ => rw [if_neg (h0 0 (by omega)), if_pos h]; rfl
  | 2, _ => rw [if_neg (h0 0 (by omega)), if_neg (h0 1 (by omega)), if_pos h]; rfl
  | 3, _ => rw [if_neg (h0 0 (by omega)), if_neg (h0 1 (by omega)), if_neg (h0 2 (by omega)), if_pos h]; rfl
theorem PlanM.cls_none (p : PlanM) (a : Int) (h : ∀ j, j < 4 → ¬ p.has j a) : p.cls a = (-1, 0) := by
  unfold PlanM.cls
  rw [if_neg (h 0 (by omega)), if_neg (h 1 (by omega)), if_neg (h 2 (by omega)), if_neg (h 3 (by omega))]

theorem Tryd.idx0 (w : World) : (Instr.index 22 (.agg #[.int .i64 4, .int .i64 16, .int .i64 64, .int .i64 256]) (.int .i64 0)).run Tryd.prog w = .ok (.int .i64 4) w := by kernel_rfl
theorem Tryd.idx1 (w : World) : (Instr.index 22 (.agg #[.int .i64 4, .int .i64 16, .int .i64 64, .int .i64 256]) (.int .i64 1)).run Tryd.prog w = .ok (.int .i64 16) w := by kernel_rfl
theorem Tryd.idx2 (w : World) : (Instr.index 22 (.agg #[.int .i64 4, .int .i64 16, .int .i64 64, .int .i64 256]) (.int .i64 2)).run Tryd.prog w = .ok (.int .i64 64) w := by kernel_rfl
theorem Tryd.idx3 (w : World) : (Instr.index 22 (.agg #[.int .i64 4, .int .i64 16, .int .i64 64, .int .i64 256]) (.int .i64 3)).run Tryd.prog w = .ok (.int .i64 256) w := by kernel_rfl

set_option maxRecDepth 100000 in
set_option maxHeartbeats 4000000 in
theorem class_call (p : PlanM) (a : Int) (w : World) (hp : p.Wf) (ht : Tab w) (ha : -9223372036854775808 ≤ a ∧ a ≤ 9223372036854775807) :
    Calls Tryd.prog 40 #[p.val, .int .i64 a] w fun e w' => e = .returned (.tuple #[.int .i64 (p.cls a).1, .int .i64 (p.cls a).2]) ∧ Keeps (· < w.heap.size) w w' := by
  obtain ⟨ha0, ha1⟩ := ha
  obtain ⟨t0, t1, t2, t3, t4⟩ := ht
  have HCA := hid (p.cls_at a)
  have HCN := hid (p.cls_none a)
  have HWF := hid hp
  clear hp
  refine calls_hide fun R' hR' => ?_
  unfold PlanM.val
  go_enter Tryd.func40, Tryd.ntmps40
  go_wp2_with fail
  have hb0 : Blk (w.alloc (.cells p.flat.toArray 29)) w.heap.size p.flat := Blk.new w p.flat _
  have hk0 : Keeps (· < w.heap.size) w (w.alloc (.cells p.flat.toArray 29)) := (Keeps.refl _ _).alloc (fun b hb => hb) _
  change Code.wp _ _ _ _ (w.alloc (.cells p.flat.toArray 29))
  generalize w.alloc (.cells p.flat.toArray 29) = w0 at *
  generalize hB : w.heap.size = B at *
  have Hb0 := hid hb0
  have Hk0 := hid hk0
  have HB := hid hB
  clear hb0 hk0 hB
  clear t0 t1 t2 t3 t4
  go_loopw [9] (fun vi wr => ∃ k q : Nat, vi = .int .i64 (k : Int) ∧ k ≤ 4 ∧ w0.drewN q = wr ∧ Hid (∀ j, j < k → ¬ p.has j a)) (fun i _ => 4 - (intOf i).toNat)
  case atStart => exact ⟨0, 0, rfl, by omega, rfl, hid fun j h => by omega⟩
  case round =>
    obtain ⟨k, q, rfl, hk, hw, HN⟩ := hrel
    have Hw := hid hw
    clear hw
    have hblk : Blk wr B p.flat := by rw [← Hw.out]; exact Hb0.out.drewN q
    by_cases hk4 : k < 4
    · have hcases : k = 0 ∨ k = 1 ∨ k = 2 ∨ k = 3 := by omega
      clear hk hk4
      rcases hcases with rfl | rfl | rfl | rfl
      · have hix := Tryd.idx0
        have c1 := hblk.cell 0
        have c2 := hblk.cell 6
        change _ = some (Value.int .i64 (p.bK 0)) at c1
        change _ = some (Value.int .i64 (p.sK 0)) at c2
        have hbk := HWF.out.b 0
        have hsk := HWF.out.s 0
        have hhas : p.has 0 a ↔ (p.bK 0 ≤ a ∧ a - p.bK 0 < p.sK 0) := Iff.rfl
        have HAT := hid (HCA.out 0 (by omega) HN.out)
        generalize p.bK 0 = X at *
        generalize p.sK 0 = Y at *
        generalize hHP : p.has 0 a = HP at *
        have HHP := hid hHP
        clear hHP
        obtain ⟨hb0', hb1'⟩ := hbk
        obtain ⟨hs0', hs1'⟩ := hsk
        have HHS := hid hhas
        clear hhas hblk
        by_cases h1 : X ≤ a
        · have g1 : a ≥ X := h1
          have g2 : IntKind.i64.wrap (a - X) = a - X := IntWalk.i64_in _ (by omega)
          by_cases h2 : a - X < Y
          · have g3 : decide (a - X < Y) = true := decide_eq_true h2
            have g4 : 0 ≤ a - X := by omega
            have g5 : (a - X).tmod 4 = (a - X) % 4 := Int.tmod_eq_emod_of_nonneg g4
            have HE := hid (HAT.out (HHS.out.2 ⟨h1, h2⟩))
            go_wp2_with fail
            go_quiet (fail)
            go_wp2_with fail
            go_quiet (fail)
            go_wp2_with fail
            refine hR'.out _ _ ⟨?_, ?_⟩
            · rw [HE.out]; rfl
            · rw [← Hw.out]; exact ((Hk0.out.drewN q).drewN _).drewN _
          · have g3 : decide (a - X < Y) = false := decide_eq_false h2
            have HE := hid (fun h => h2 (HHS.out.1 h).2)
            clear h2
            go_wp2_with fail
            go_quiet (fail)
            go_wp2_with fail
            go_roundw
            case rel =>
              refine ⟨1, q + nq, by first | rfl | go_num, by omega, by rw [← Hw.out, World.drewN_drewN], hid fun j hj => ?_⟩
              by_cases e : j < 0
              · exact HN.out j e
              · have e : j = 0 := by omega
                subst e; rw [HHP.out]; exact HE.out
            case measure => simp [intOf]
        · have g1 : ¬ a ≥ X := h1
          have g1' : decide (a ≥ X) = false := decide_eq_false h1
          have HE := hid (fun h => h1 (HHS.out.1 h).1)
          clear h1
          go_wp2_with fail
          go_quiet (fail)
          go_wp2_with fail
          go_roundw
          case rel =>
            refine ⟨1, q + nq, by first | rfl | go_num, by omega, by rw [← Hw.out, World.drewN_drewN], hid fun j hj => ?_⟩
            by_cases e : j < 0
            · exact HN.out j e
            · have e : j = 0 := by omega
              subst e; rw [HHP.out]; exact HE.out
          case measure => simp [intOf]
      · have hix := Tryd.idx1
        have c1 := hblk.cell 1
        have c2 := hblk.cell 7
        change _ = some (Value.int .i64 (p.bK 1)) at c1
        change _ = some (Value.int .i64 (p.sK 1)) at c2
        have hbk := HWF.out.b 1
        have hsk := HWF.out.s 1
        have hhas : p.has 1 a ↔ (p.bK 1 ≤ a ∧ a - p.bK 1 < p.sK 1) := Iff.rfl
        have HAT := hid (HCA.out 1 (by omega) HN.out)
        generalize p.bK 1 = X at *
        generalize p.sK 1 = Y at *
        generalize hHP : p.has 1 a = HP at *
        have HHP := hid hHP
        clear hHP
        obtain ⟨hb0', hb1'⟩ := hbk
        obtain ⟨hs0', hs1'⟩ := hsk
        have HHS := hid hhas
        clear hhas hblk
        by_cases h1 : X ≤ a
        · have g1 : a ≥ X := h1
          have g2 : IntKind.i64.wrap (a - X) = a - X := IntWalk.i64_in _ (by omega)
          by_cases h2 : a - X < Y
          · have g3 : decide (a - X < Y) = true := decide_eq_true h2
            have g4 : 0 ≤ a - X := by omega
            have g5 : (a - X).tmod 16 = (a - X) % 16 := Int.tmod_eq_emod_of_nonneg g4
            have HE := hid (HAT.out (HHS.out.2 ⟨h1, h2⟩))
            go_wp2_with fail
            go_quiet (fail)
            go_wp2_with fail
            go_quiet (fail)
            go_wp2_with fail
            refine hR'.out _ _ ⟨?_, ?_⟩
            · rw [HE.out]; rfl
            · rw [← Hw.out]; exact ((Hk0.out.drewN q).drewN _).drewN _
          · have g3 : decide (a - X < Y) = false := decide_eq_false h2
            have HE := hid (fun h => h2 (HHS.out.1 h).2)
            clear h2
            go_wp2_with fail
            go_quiet (fail)
            go_wp2_with fail
            go_roundw
            case rel =>
              refine ⟨2, q + nq, by first | rfl | go_num, by omega, by rw [← Hw.out, World.drewN_drewN], hid fun j hj => ?_⟩
              by_cases e : j < 1
              · exact HN.out j e
              · have e : j = 1 := by omega
                subst e; rw [HHP.out]; exact HE.out
            case measure => simp [intOf]
        · have g1 : ¬ a ≥ X := h1
          have g1' : decide (a ≥ X) = false := decide_eq_false h1
          have HE := hid (fun h => h1 (HHS.out.1 h).1)
          clear h1
          go_wp2_with fail
          go_quiet (fail)
          go_wp2_with fail
          go_roundw
          case rel =>
            refine ⟨2, q + nq, by first | rfl | go_num, by omega, by rw [← Hw.out, World.drewN_drewN], hid fun j hj => ?_⟩
            by_cases e : j < 1
            · exact HN.out j e
            · have e : j = 1 := by omega
              subst e; rw [HHP.out]; exact HE.out
          case measure => simp [intOf]
      · have hix := Tryd.idx2
        have c1 := hblk.cell 2
        have c2 := hblk.cell 8
        change _ = some (Value.int .i64 (p.bK 2)) at c1
        change _ = some (Value.int .i64 (p.sK 2)) at c2
        have hbk := HWF.out.b 2
        have hsk := HWF.out.s 2
        have hhas : p.has 2 a ↔ (p.bK 2 ≤ a ∧ a - p.bK 2 < p.sK 2) := Iff.rfl
        have HAT := hid (HCA.out 2 (by omega) HN.out)
        generalize p.bK 2 = X at *
        generalize p.sK 2 = Y at *
        generalize hHP : p.has 2 a = HP at *
        have HHP := hid hHP
        clear hHP
        obtain ⟨hb0', hb1'⟩ := hbk
        obtain ⟨hs0', hs1'⟩ := hsk
        have HHS := hid hhas
        clear hhas hblk
        by_cases h1 : X ≤ a
        · have g1 : a ≥ X := h1
          have g2 : IntKind.i64.wrap (a - X) = a - X := IntWalk.i64_in _ (by omega)
          by_cases h2 : a - X < Y
          · have g3 : decide (a - X < Y) = true := decide_eq_true h2
            have g4 : 0 ≤ a - X := by omega
            have g5 : (a - X).tmod 64 = (a - X) % 64 := Int.tmod_eq_emod_of_nonneg g4
            have HE := hid (HAT.out (HHS.out.2 ⟨h1, h2⟩))
            go_wp2_with fail
            go_quiet (fail)
            go_wp2_with fail
            go_quiet (fail)
            go_wp2_with fail
            refine hR'.out _ _ ⟨?_, ?_⟩
            · rw [HE.out]; rfl
            · rw [← Hw.out]; exact ((Hk0.out.drewN q).drewN _).drewN _
          · have g3 : decide (a - X < Y) = false := decide_eq_false h2
            have HE := hid (fun h => h2 (HHS.out.1 h).2)
            clear h2
            go_wp2_with fail
            go_quiet (fail)
            go_wp2_with fail
            go_roundw
            case rel =>
              refine ⟨3, q + nq, by first | rfl | go_num, by omega, by rw [← Hw.out, World.drewN_drewN], hid fun j hj => ?_⟩
              by_cases e : j < 2
              · exact HN.out j e
              · have e : j = 2 := by omega
                subst e; rw [HHP.out]; exact HE.out
            case measure => simp [intOf]
        · have g1 : ¬ a ≥ X := h1
          have g1' : decide (a ≥ X) = false := decide_eq_false h1
          have HE := hid (fun h => h1 (HHS.out.1 h).1)
          clear h1
          go_wp2_with fail
          go_quiet (fail)
          go_wp2_with fail
          go_roundw
          case rel =>
            refine ⟨3, q + nq, by first | rfl | go_num, by omega, by rw [← Hw.out, World.drewN_drewN], hid fun j hj => ?_⟩
            by_cases e : j < 2
            · exact HN.out j e
            · have e : j = 2 := by omega
              subst e; rw [HHP.out]; exact HE.out
          case measure => simp [intOf]
      · have hix := Tryd.idx3
        have c1 := hblk.cell 3
        have c2 := hblk.cell 9
        change _ = some (Value.int .i64 (p.bK 3)) at c1
        change _ = some (Value.int .i64 (p.sK 3)) at c2
        have hbk := HWF.out.b 3
        have hsk := HWF.out.s 3
        have hhas : p.has 3 a ↔ (p.bK 3 ≤ a ∧ a - p.bK 3 < p.sK 3) := Iff.rfl
        have HAT := hid (HCA.out 3 (by omega) HN.out)
        generalize p.bK 3 = X at *
        generalize p.sK 3 = Y at *
        generalize hHP : p.has 3 a = HP at *
        have HHP := hid hHP
        clear hHP
        obtain ⟨hb0', hb1'⟩ := hbk
        obtain ⟨hs0', hs1'⟩ := hsk
        have HHS := hid hhas
        clear hhas hblk
        by_cases h1 : X ≤ a
        · have g1 : a ≥ X := h1
          have g2 : IntKind.i64.wrap (a - X) = a - X := IntWalk.i64_in _ (by omega)
          by_cases h2 : a - X < Y
          · have g3 : decide (a - X < Y) = true := decide_eq_true h2
            have g4 : 0 ≤ a - X := by omega
            have g5 : (a - X).tmod 256 = (a - X) % 256 := Int.tmod_eq_emod_of_nonneg g4
            have HE := hid (HAT.out (HHS.out.2 ⟨h1, h2⟩))
            go_wp2_with fail
            go_quiet (fail)
            go_wp2_with fail
            go_quiet (fail)
            go_wp2_with fail
            refine hR'.out _ _ ⟨?_, ?_⟩
            · rw [HE.out]; rfl
            · rw [← Hw.out]; exact ((Hk0.out.drewN q).drewN _).drewN _
          · have g3 : decide (a - X < Y) = false := decide_eq_false h2
            have HE := hid (fun h => h2 (HHS.out.1 h).2)
            clear h2
            go_wp2_with fail
            go_quiet (fail)
            go_wp2_with fail
            go_roundw
            case rel =>
              refine ⟨4, q + nq, by first | rfl | go_num, by omega, by rw [← Hw.out, World.drewN_drewN], hid fun j hj => ?_⟩
              by_cases e : j < 3
              · exact HN.out j e
              · have e : j = 3 := by omega
                subst e; rw [HHP.out]; exact HE.out
            case measure => simp [intOf]
        · have g1 : ¬ a ≥ X := h1
          have g1' : decide (a ≥ X) = false := decide_eq_false h1
          have HE := hid (fun h => h1 (HHS.out.1 h).1)
          clear h1
          go_wp2_with fail
          go_quiet (fail)
          go_wp2_with fail
          go_roundw
          case rel =>
            refine ⟨4, q + nq, by first | rfl | go_num, by omega, by rw [← Hw.out, World.drewN_drewN], hid fun j hj => ?_⟩
            by_cases e : j < 3
            · exact HN.out j e
            · have e : j = 3 := by omega
              subst e; rw [HHP.out]; exact HE.out
          case measure => simp [intOf]
    · have hk' : k = 4 := by omega
      subst hk'
      clear hblk
      go_wp2_with fail
      refine hR'.out _ _ ⟨?_, ?_⟩
      · rw [HCN.out HN.out]; rfl
      · rw [← Hw.out]; exact Hk0.out.drewN q

set_option maxRecDepth 100000 in
set_option maxHeartbeats 400000 in
theorem slab_call (k : Nat) (hk : k ≤ 3) (w : World) (ht : Tab w) : Calls Tryd.prog 41 #[.int .i64 (k : Int)] w fun e w' => e = .returned (.int .i64 (szK k)) ∧ w' = w := by
  obtain ⟨t0, t1, t2, t3, t4⟩ := ht
  have hcases : k = 0 ∨ k = 1 ∨ k = 2 ∨ k = 3 := by omega
  clear hk
  refine calls_hide fun R' hR' => ?_
  rcases hcases with rfl | rfl | rfl | rfl
  all_goals
    go_enter Tryd.func41, Tryd.ntmps41
    go_wp2_with fail
    refine (between_yes _ _ _ _ (by omega)).mono ?_
    rintro e w' ⟨rfl, rfl⟩
    go_wp2_with fail
    exact hR'.out _ _ ⟨rfl, rfl⟩

/-- what is taken behind a tail: the class, -1: none; false: the tail may not be -/
def PlanM.next (p : PlanM) (t : Int) : Int × Bool :=
  if t = 0 then (0, true) else if (p.cls t).1 < 0 ∨ (p.cls t).2 = 0 then (0, false)
  else if (p.cls t).2 = szK (p.cls t).1.toNat - 1 then (if (p.cls t).1 + 1 ≤ 3 then (p.cls t).1 + 1 else 3, true) else (-1, true)
theorem PlanM.cls_range (p : PlanM) (a : Int) : (p.cls a).1 = -1 ∨ ∃ k : Nat, k ≤ 3 ∧ (p.cls a).1 = (k : Int) := by
  unfold PlanM.cls
  split
  · exact Or.inr ⟨0, by omega, rfl⟩
  · split
    · exact Or.inr ⟨1, by omega, rfl⟩
    · split
      · exact Or.inr ⟨2, by omega, rfl⟩
      · split
        · exact Or.inr ⟨3, by omega, rfl⟩
        · exact Or.inl rfl

set_option maxRecDepth 100000 in
set_option maxHeartbeats 2000000 in
theorem next_call (p : PlanM) (t : Int) (w : World) (hp : p.Wf) (ht : Tab w) (ha : -9223372036854775808 ≤ t ∧ t ≤ 9223372036854775807) :
    Calls Tryd.prog 39 #[p.val, .int .i64 t] w fun e w' => e = .returned (.tuple #[.int .i64 (p.next t).1, .bool (p.next t).2]) ∧ Keeps (· < w.heap.size) w w' := by
  have HT := hid ht
  have HP := hid hp
  have HA := hid ha
  clear hp ht ha
  refine calls_hide fun R' hR' => ?_
  unfold PlanM.next at hR'
  by_cases h0 : t = 0
  · subst h0
    rw [if_pos rfl] at hR'
    unfold PlanM.val
    go_enter Tryd.func39, Tryd.ntmps39
    go_wp2_with fail
    exact hR'.out _ _ ⟨rfl, (Keeps.refl _ _).alloc (fun b hb => hb) _⟩
  · rw [if_neg h0] at hR'
    have g0 : (t == 0) = false := by simpa using h0
    have hr := p.cls_range t
    have hcall := fun w hw => class_call p t w HP.out hw HA.out
    generalize p.cls t = r at *
    obtain ⟨r1, r2⟩ := r
    simp only at hr hR'
    unfold PlanM.val at *
    go_enter Tryd.func39, Tryd.ntmps39
    go_wp2_with fail
    have hk0 : Keeps (· < w.heap.size) w (w.alloc (.cells p.flat.toArray 29)) := (Keeps.refl _ _).alloc (fun b hb => hb) _
    refine calls_gen (fun W => Keeps (· < w.heap.size) w W) hk0 (fun W hW => ?_)
    refine (hcall W (HT.out.keep hW HT.out.2.2.2.2)).mono ?_
    rintro e w1 ⟨rfl, hk1⟩
    have HK := hid (hW.trans (hk1.mono fun b hb => by have := hW.size; omega))
    have HT1 := hid (HT.out.keep HK.out HT.out.2.2.2.2)
    clear hcall hk0 hW hk1
    rcases hr with rfl | ⟨k, hk, rfl⟩
    · rw [if_pos (Or.inl (by omega))] at hR'
      go_wp2_with fail
      exact hR'.out _ _ ⟨rfl, HK.out⟩
    · have g1 : decide ((k : Int) < 0) = false := decide_eq_false (by omega)
      by_cases h2 : r2 = 0
      · subst h2
        rw [if_pos (Or.inr rfl)] at hR'
        go_wp2_with fail
        exact hR'.out _ _ ⟨rfl, HK.out⟩
      · have g2 : (r2 == 0) = false := by simpa using h2
        rw [if_neg (by rintro (h | h); omega; exact h2 h), show ((k : Int)).toNat = k from by omega] at hR'
        have HKL := hid hk
        clear h2
        go_wp2_with fail
        refine (slab_call k HKL.out w1 HT1.out).mono ?_
        rintro e w2 ⟨rfl, rfl⟩
        have hsz : szK k ≤ 256 ∧ 4 ≤ szK k := by
          have : k = 0 ∨ k = 1 ∨ k = 2 ∨ k = 3 := by omega
          rcases this with rfl | rfl | rfl | rfl <;> decide
        generalize szK k = z at *
        obtain ⟨z1, z2⟩ := hsz
        by_cases h3 : r2 = z - 1
        · rw [if_pos h3] at hR'
          have g3 : (r2 == z - 1) = true := by simpa using h3
          have HN := hid h3
          clear h3
          by_cases h4 : (k : Int) + 1 ≤ 3
          · rw [if_pos h4] at hR'
            have g4 : (k : Int) + 1 < 3 ∨ (k : Int) + 1 = 3 := by omega
            have hmin : min ((k : Int) + 1) 3 = (k : Int) + 1 := Int.min_eq_left h4
            go_wp2_with fail
            exact hR'.out _ _ ⟨rfl, HK.out⟩
          · rw [if_neg h4] at hR'
            have hmin : min ((k : Int) + 1) 3 = 3 := Int.min_eq_right (by omega)
            go_wp2_with fail
            exact hR'.out _ _ ⟨rfl, HK.out⟩
        · rw [if_neg h3] at hR'
          have g3 : (r2 == z - 1) = false := by simpa using h3
          clear h3
          go_wp2_with fail
          exact hR'.out _ _ ⟨rfl, HK.out⟩
end Go.Proofs.YtbmgmjfpoepgpaaDoor

