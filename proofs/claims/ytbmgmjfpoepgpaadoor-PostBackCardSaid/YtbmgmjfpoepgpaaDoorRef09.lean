/- Contracts of the references: Class, Right, Need, Fits. Printed by gen/ref09.py. -/
import Derived.Test.YtbmgmjfpoepgpaaDoorNeedP
import Derived.BigQuiet
namespace Go.Proofs.YtbmgmjfpoepgpaaDoor
open Go.RowKit


theorem cls_at0 {p : PlanM} {X Y z a : Int} {n i : Nat} (hX : p.bK 0 = X) (hY : p.sK 0 = Y) (hn : Y = 4 * (n : Int)) (hz : z = X + 4 * (i : Int)) (h1 : z ≤ a) (h2 : a < z + 4) (h3 : z < X + Y) (hno : ∀ j, j < 0 → ¬ p.has j a) : p.cls a = (((0 : Nat) : Int), a - z) := by
  rw [PlanM.cls_at p a 0 (by omega) hno (by unfold PlanM.has; rw [hX, hY]; omega)]
  refine Prod.ext rfl ?_
  show (a - p.bK 0) % 4 = a - z
  rw [hX]; omega
theorem cls_no0 {p : PlanM} {X Y z a : Int} {n i : Nat} (hX : p.bK 0 = X) (hY : p.sK 0 = Y) (hn : Y = 4 * (n : Int)) (hz : z = X + 4 * (i : Int)) (h3 : ¬ z < X + Y) (hs : ∀ j : Nat, j < i → ¬ (X + 4 * (j : Int) ≤ a ∧ a < X + 4 * (j : Int) + 4)) : ¬ p.has 0 a := by
  intro h
  unfold PlanM.has at h
  rw [hX, hY] at h
  exact hs ((a - X) / 4).toNat (by omega) (by omega)

theorem cls_at1 {p : PlanM} {X Y z a : Int} {n i : Nat} (hX : p.bK 1 = X) (hY : p.sK 1 = Y) (hn : Y = 16 * (n : Int)) (hz : z = X + 16 * (i : Int)) (h1 : z ≤ a) (h2 : a < z + 16) (h3 : z < X + Y) (hno : ∀ j, j < 1 → ¬ p.has j a) : p.cls a = (((1 : Nat) : Int), a - z) := by
  rw [PlanM.cls_at p a 1 (by omega) hno (by unfold PlanM.has; rw [hX, hY]; omega)]
  refine Prod.ext rfl ?_
  show (a - p.bK 1) % 16 = a - z
  rw [hX]; omega
theorem cls_no1 {p : PlanM} {X Y z a : Int} {n i : Nat} (hX : p.bK 1 = X) (hY : p.sK 1 = Y) (hn : Y = 16 * (n : Int)) (hz : z = X + 16 * (i : Int)) (h3 : ¬ z < X + Y) (hs : ∀ j : Nat, j < i → ¬ (X + 16 * (j : Int) ≤ a ∧ a < X + 16 * (j : Int) + 16)) : ¬ p.has 1 a := by
  intro h
  unfold PlanM.has at h
  rw [hX, hY] at h
  exact hs ((a - X) / 16).toNat (by omega) (by omega)

theorem cls_at2 {p : PlanM} {X Y z a : Int} {n i : Nat} (hX : p.bK 2 = X) (hY : p.sK 2 = Y) (hn : Y = 64 * (n : Int)) (hz : z = X + 64 * (i : Int)) (h1 : z ≤ a) (h2 : a < z + 64) (h3 : z < X + Y) (hno : ∀ j, j < 2 → ¬ p.has j a) : p.cls a = (((2 : Nat) : Int), a - z) := by
  rw [PlanM.cls_at p a 2 (by omega) hno (by unfold PlanM.has; rw [hX, hY]; omega)]
  refine Prod.ext rfl ?_
  show (a - p.bK 2) % 64 = a - z
  rw [hX]; omega
theorem cls_no2 {p : PlanM} {X Y z a : Int} {n i : Nat} (hX : p.bK 2 = X) (hY : p.sK 2 = Y) (hn : Y = 64 * (n : Int)) (hz : z = X + 64 * (i : Int)) (h3 : ¬ z < X + Y) (hs : ∀ j : Nat, j < i → ¬ (X + 64 * (j : Int) ≤ a ∧ a < X + 64 * (j : Int) + 64)) : ¬ p.has 2 a := by
  intro h
  unfold PlanM.has at h
  rw [hX, hY] at h
  exact hs ((a - X) / 64).toNat (by omega) (by omega)

theorem cls_at3 {p : PlanM} {X Y z a : Int} {n i : Nat} (hX : p.bK 3 = X) (hY : p.sK 3 = Y) (hn : Y = 256 * (n : Int)) (hz : z = X + 256 * (i : Int)) (h1 : z ≤ a) (h2 : a < z + 256) (h3 : z < X + Y) (hno : ∀ j, j < 3 → ¬ p.has j a) : p.cls a = (((3 : Nat) : Int), a - z) := by
  rw [PlanM.cls_at p a 3 (by omega) hno (by unfold PlanM.has; rw [hX, hY]; omega)]
  refine Prod.ext rfl ?_
  show (a - p.bK 3) % 256 = a - z
  rw [hX]; omega
theorem cls_no3 {p : PlanM} {X Y z a : Int} {n i : Nat} (hX : p.bK 3 = X) (hY : p.sK 3 = Y) (hn : Y = 256 * (n : Int)) (hz : z = X + 256 * (i : Int)) (h3 : ¬ z < X + Y) (hs : ∀ j : Nat, j < i → ¬ (X + 256 * (j : Int) ≤ a ∧ a < X + 256 * (j : Int) + 256)) : ¬ p.has 3 a := by
  intro h
  unfold PlanM.has at h
  rw [hX, hY] at h
  exact hs ((a - X) / 256).toNat (by omega) (by omega)

set_option maxRecDepth 100000 in
set_option maxHeartbeats 8000000 in
theorem class_ref (p : PlanM) (P : Pools) (hP : P.ok) (hl : p.lays P) (a : Int) (w : World) (ha : -9223372036854775808 ≤ a ∧ a ≤ 9223372036854775807) :
    Calls Tryd.prog 43 #[p.val, .int .i64 a] w fun e w' => e = .returned (.tuple #[.int .i64 (p.cls a).1, .int .i64 (p.cls a).2]) ∧ Keeps (· < w.heap.size) w w' := by
  obtain ⟨ha0, ha1⟩ := ha
  have HWF := hid (hl.wf hP)
  have HS := hid hl.s
  have HCN := hid (p.cls_none a)
  clear hl hP
  refine calls_hide fun R' hR' => ?_
  unfold PlanM.val
  go_enter Tryd.func43, Tryd.ntmps43
  go_wp2_with fail
  refine wp_gen (fun W => Blk W w.heap.size p.flat ∧ Keeps (· < w.heap.size) w W) ⟨Blk.new w p.flat _, (Keeps.refl _ _).alloc (fun b hb => hb) _⟩ ?_
  rintro w0 ⟨hb0, hk0⟩
  generalize hB : w.heap.size = B at *
  have Hb0 := hid hb0
  have Hk0 := hid hk0
  have HB := hid hB
  clear hb0 hk0 hB
  go_loopw [6] (fun vi wr => ∃ k : Nat, vi = .int .i64 (k : Int) ∧ k ≤ 4 ∧ Hid (Blk wr B p.flat ∧ Keeps (· < B) w wr ∧ ∀ j, j < k → ¬ p.has j a)) (fun i _ => 4 - (intOf i).toNat)
  case atStart => exact ⟨0, rfl, by omega, hid ⟨Hb0.out, Hk0.out, fun j h => by omega⟩⟩
  case round =>
    clear Hb0 Hk0
    obtain ⟨k, rfl, hk, HH⟩ := hrel
    obtain ⟨hblk, hkp, hno⟩ := HH.out
    clear HH
    have Hkp := hid hkp
    have Hno := hid hno
    clear hkp hno
    by_cases hk4 : k < 4
    · have hcases : k = 0 ∨ k = 1 ∨ k = 2 ∨ k = 3 := by omega
      clear hk hk4
      rcases hcases with rfl | rfl | rfl | rfl
      · have c1 := hblk.cell 0
        have c2 := hblk.cell 6
        change _ = some (Value.int .i64 (p.bK 0)) at c1
        change _ = some (Value.int .i64 (p.sK 0)) at c2
        have hbk := HWF.out.b 0
        have hsk := HWF.out.s 0
        have hs0 := HS.out 0 (by omega)
        generalize hX : p.bK 0 = X at *
        generalize hY : p.sK 0 = Y at *
        obtain ⟨n, hn⟩ : ∃ n : Nat, Y = 4 * (n : Int) := ⟨P.n 0, by rw [hs0]; simp only [sz]; omega⟩
        have HX := hid (And.intro hX (And.intro hY hn))
        have HBK := hid hblk
        clear hX hY hn hs0 hblk
        rw [show (((0 : Nat)) : Int) = (0 : Int) from rfl]
        obtain ⟨x0, x1⟩ := hbk
        obtain ⟨y0, y1⟩ := hsk
        go_wp2_with fail
        clear c1 c2
        go_loopw [7] (fun vb ws => ∃ (i : Nat) (z : Int), vb = .int .i64 z ∧ 0 ≤ z ∧ z ≤ 200000 ∧ Hid (z = X + 4 * (i : Int) ∧ Blk ws B p.flat ∧ Keeps (· < B) w ws ∧ ∀ j : Nat, j < i → ¬ (X + 4 * (j : Int) ≤ a ∧ a < X + 4 * (j : Int) + 4))) (fun b _ => (X + Y - intOf b).toNat)
        case atStart =>
          refine ⟨0, X, by first | rfl | go_num, x0, by omega, hid ⟨by omega, ?_, ?_, fun j h => by omega⟩⟩
          · repeat (first | exact HBK.out | with_reducible refine Blk.drew ?_ | with_reducible refine Blk.drewN ?_ _)
          · repeat (first | exact Hkp.out | with_reducible refine Keeps.drew ?_ | with_reducible refine Keeps.drewN ?_ _)
        case round =>
          clear HBK Hkp
          obtain ⟨i, z, rfl, hz0, hz1, HH⟩ := hrel
          obtain ⟨hz, hblk, hkp, hsl⟩ := HH.out
          clear HH
          have c1 := hblk.cell 0
          have c2 := hblk.cell 6
          change _ = some (Value.int .i64 (p.bK 0)) at c1
          change _ = some (Value.int .i64 (p.sK 0)) at c2
          rw [HX.out.1] at c1
          rw [HX.out.2.1] at c2
          have gXY : IntKind.i64.wrap (X + Y) = X + Y := IntWalk.i64_in _ (by omega)
          by_cases hlt : z < X + Y
          · have g3 : decide (z < X + Y) = true := decide_eq_true hlt
            have hz2 : z ≤ 131072 := by omega
            have gS : IntKind.i64.wrap (z + 4) = z + 4 := IntWalk.i64_in _ (by omega)
            have HLT := hid hlt
            clear hlt
            by_cases h1 : z ≤ a
            · have g1 : a ≥ z := h1
              have gd : IntKind.i64.wrap (a - z) = a - z := IntWalk.i64_in _ (by omega)
              by_cases h2 : a < z + 4
              · have g2 : decide (a < z + 4) = true := decide_eq_true h2
                have HE := hid (cls_at0 HX.out.1 HX.out.2.1 HX.out.2.2 hz h1 h2 HLT.out Hno.out)
                have Hkp := hid hkp
                clear hkp
                clear hz hblk hsl h2
                go_wp2_with fail
                go_quiet (fail)
                go_wp2_with fail
                refine (slab_at0 _).mono ?_
                rintro e w2 ⟨rfl, rfl⟩
                go_wp2_with fail
                refine hR'.out _ _ ⟨?_, ?_⟩
                · rw [HE.out]; rfl
                · repeat (first | exact Hkp.out | with_reducible refine Keeps.drew ?_ | with_reducible refine Keeps.drewN ?_ _)
              · have g2 : decide (a < z + 4) = false := decide_eq_false h2
                have HR := hid (show z + 4 = X + 4 * ((i + 1 : Nat) : Int) ∧ ∀ j : Nat, j < i + 1 → ¬ (X + 4 * (j : Int) ≤ a ∧ a < X + 4 * (j : Int) + 4) from ⟨by omega, fun j hj hh => by
                  by_cases e : j < i
                  · exact hsl j e hh
                  · obtain rfl : j = i := by omega
                    omega⟩)
                have HBK := hid hblk
                have Hkp := hid hkp
                clear hkp
                clear hz hblk hsl h2
                go_wp2_with fail
                go_quiet (fail)
                go_wp2_with fail
                refine (slab_at0 _).mono ?_
                rintro e w2 ⟨rfl, rfl⟩
                go_wp2_with fail
                refine (slab_at0 _).mono ?_
                rintro e w2 ⟨rfl, rfl⟩
                go_wp2_with fail
                go_roundw
                case rel =>
                  refine ⟨i + 1, z + 4, by first | rfl | go_num, by omega, by omega, hid ⟨HR.out.1, ?_, ?_, HR.out.2⟩⟩
                  · repeat (first | exact HBK.out | with_reducible refine Blk.drew ?_ | with_reducible refine Blk.drewN ?_ _)
                  · repeat (first | exact Hkp.out | with_reducible refine Keeps.drew ?_ | with_reducible refine Keeps.drewN ?_ _)
                case measure => have := HLT.out; simp [intOf]; omega
            · have g1 : ¬ a ≥ z := h1
              have g1' : decide (a ≥ z) = false := decide_eq_false h1
              have HR := hid (show z + 4 = X + 4 * ((i + 1 : Nat) : Int) ∧ ∀ j : Nat, j < i + 1 → ¬ (X + 4 * (j : Int) ≤ a ∧ a < X + 4 * (j : Int) + 4) from ⟨by omega, fun j hj hh => by
                by_cases e : j < i
                · exact hsl j e hh
                · obtain rfl : j = i := by omega
                  omega⟩)
              have HBK := hid hblk
              have Hkp := hid hkp
              clear hkp
              clear hz hblk hsl h1
              go_wp2_with fail
              go_quiet (fail)
              go_wp2_with fail
              refine (slab_at0 _).mono ?_
              rintro e w2 ⟨rfl, rfl⟩
              go_wp2_with fail
              go_roundw
              case rel =>
                refine ⟨i + 1, z + 4, by first | rfl | go_num, by omega, by omega, hid ⟨HR.out.1, ?_, ?_, HR.out.2⟩⟩
                · repeat (first | exact HBK.out | with_reducible refine Blk.drew ?_ | with_reducible refine Blk.drewN ?_ _)
                · repeat (first | exact Hkp.out | with_reducible refine Keeps.drew ?_ | with_reducible refine Keeps.drewN ?_ _)
              case measure => have := HLT.out; simp [intOf]; omega
          · have g3 : decide (z < X + Y) = false := decide_eq_false hlt
            have HE := hid (cls_no0 HX.out.1 HX.out.2.1 HX.out.2.2 hz hlt hsl)
            have HBK := hid hblk
            have Hkp := hid hkp
            clear hkp
            clear hz hblk hsl hlt
            go_wp2_with fail
            go_quiet (fail)
            go_wp2_with fail
            go_roundw
            case rel =>
              refine ⟨1, by first | rfl | go_num, by omega, hid ⟨?_, ?_, fun j hj => ?_⟩⟩
              · repeat (first | exact HBK.out | with_reducible refine Blk.drew ?_ | with_reducible refine Blk.drewN ?_ _)
              · repeat (first | exact Hkp.out | with_reducible refine Keeps.drew ?_ | with_reducible refine Keeps.drewN ?_ _)
              · by_cases e : j < 0
                · exact Hno.out j e
                · obtain rfl : j = 0 := by omega
                  exact HE.out
            case measure => simp [intOf]
      · have c1 := hblk.cell 1
        have c2 := hblk.cell 7
        change _ = some (Value.int .i64 (p.bK 1)) at c1
        change _ = some (Value.int .i64 (p.sK 1)) at c2
        have hbk := HWF.out.b 1
        have hsk := HWF.out.s 1
        have hs0 := HS.out 1 (by omega)
        generalize hX : p.bK 1 = X at *
        generalize hY : p.sK 1 = Y at *
        obtain ⟨n, hn⟩ : ∃ n : Nat, Y = 16 * (n : Int) := ⟨P.n 1, by rw [hs0]; simp only [sz]; omega⟩
        have HX := hid (And.intro hX (And.intro hY hn))
        have HBK := hid hblk
        clear hX hY hn hs0 hblk
        rw [show (((1 : Nat)) : Int) = (1 : Int) from rfl]
        obtain ⟨x0, x1⟩ := hbk
        obtain ⟨y0, y1⟩ := hsk
        go_wp2_with fail
        clear c1 c2
        go_loopw [7] (fun vb ws => ∃ (i : Nat) (z : Int), vb = .int .i64 z ∧ 0 ≤ z ∧ z ≤ 200000 ∧ Hid (z = X + 16 * (i : Int) ∧ Blk ws B p.flat ∧ Keeps (· < B) w ws ∧ ∀ j : Nat, j < i → ¬ (X + 16 * (j : Int) ≤ a ∧ a < X + 16 * (j : Int) + 16))) (fun b _ => (X + Y - intOf b).toNat)
        case atStart =>
          refine ⟨0, X, by first | rfl | go_num, x0, by omega, hid ⟨by omega, ?_, ?_, fun j h => by omega⟩⟩
          · repeat (first | exact HBK.out | with_reducible refine Blk.drew ?_ | with_reducible refine Blk.drewN ?_ _)
          · repeat (first | exact Hkp.out | with_reducible refine Keeps.drew ?_ | with_reducible refine Keeps.drewN ?_ _)
        case round =>
          clear HBK Hkp
          obtain ⟨i, z, rfl, hz0, hz1, HH⟩ := hrel
          obtain ⟨hz, hblk, hkp, hsl⟩ := HH.out
          clear HH
          have c1 := hblk.cell 1
          have c2 := hblk.cell 7
          change _ = some (Value.int .i64 (p.bK 1)) at c1
          change _ = some (Value.int .i64 (p.sK 1)) at c2
          rw [HX.out.1] at c1
          rw [HX.out.2.1] at c2
          have gXY : IntKind.i64.wrap (X + Y) = X + Y := IntWalk.i64_in _ (by omega)
          by_cases hlt : z < X + Y
          · have g3 : decide (z < X + Y) = true := decide_eq_true hlt
            have hz2 : z ≤ 131072 := by omega
            have gS : IntKind.i64.wrap (z + 16) = z + 16 := IntWalk.i64_in _ (by omega)
            have HLT := hid hlt
            clear hlt
            by_cases h1 : z ≤ a
            · have g1 : a ≥ z := h1
              have gd : IntKind.i64.wrap (a - z) = a - z := IntWalk.i64_in _ (by omega)
              by_cases h2 : a < z + 16
              · have g2 : decide (a < z + 16) = true := decide_eq_true h2
                have HE := hid (cls_at1 HX.out.1 HX.out.2.1 HX.out.2.2 hz h1 h2 HLT.out Hno.out)
                have Hkp := hid hkp
                clear hkp
                clear hz hblk hsl h2
                go_wp2_with fail
                go_quiet (fail)
                go_wp2_with fail
                refine (slab_at1 _).mono ?_
                rintro e w2 ⟨rfl, rfl⟩
                go_wp2_with fail
                refine hR'.out _ _ ⟨?_, ?_⟩
                · rw [HE.out]; rfl
                · repeat (first | exact Hkp.out | with_reducible refine Keeps.drew ?_ | with_reducible refine Keeps.drewN ?_ _)
              · have g2 : decide (a < z + 16) = false := decide_eq_false h2
                have HR := hid (show z + 16 = X + 16 * ((i + 1 : Nat) : Int) ∧ ∀ j : Nat, j < i + 1 → ¬ (X + 16 * (j : Int) ≤ a ∧ a < X + 16 * (j : Int) + 16) from ⟨by omega, fun j hj hh => by
                  by_cases e : j < i
                  · exact hsl j e hh
                  · obtain rfl : j = i := by omega
                    omega⟩)
                have HBK := hid hblk
                have Hkp := hid hkp
                clear hkp
                clear hz hblk hsl h2
                go_wp2_with fail
                go_quiet (fail)
                go_wp2_with fail
                refine (slab_at1 _).mono ?_
                rintro e w2 ⟨rfl, rfl⟩
                go_wp2_with fail
                refine (slab_at1 _).mono ?_
                rintro e w2 ⟨rfl, rfl⟩
                go_wp2_with fail
                go_roundw
                case rel =>
                  refine ⟨i + 1, z + 16, by first | rfl | go_num, by omega, by omega, hid ⟨HR.out.1, ?_, ?_, HR.out.2⟩⟩
                  · repeat (first | exact HBK.out | with_reducible refine Blk.drew ?_ | with_reducible refine Blk.drewN ?_ _)
                  · repeat (first | exact Hkp.out | with_reducible refine Keeps.drew ?_ | with_reducible refine Keeps.drewN ?_ _)
                case measure => have := HLT.out; simp [intOf]; omega
            · have g1 : ¬ a ≥ z := h1
              have g1' : decide (a ≥ z) = false := decide_eq_false h1
              have HR := hid (show z + 16 = X + 16 * ((i + 1 : Nat) : Int) ∧ ∀ j : Nat, j < i + 1 → ¬ (X + 16 * (j : Int) ≤ a ∧ a < X + 16 * (j : Int) + 16) from ⟨by omega, fun j hj hh => by
                by_cases e : j < i
                · exact hsl j e hh
                · obtain rfl : j = i := by omega
                  omega⟩)
              have HBK := hid hblk
              have Hkp := hid hkp
              clear hkp
              clear hz hblk hsl h1
              go_wp2_with fail
              go_quiet (fail)
              go_wp2_with fail
              refine (slab_at1 _).mono ?_
              rintro e w2 ⟨rfl, rfl⟩
              go_wp2_with fail
              go_roundw
              case rel =>
                refine ⟨i + 1, z + 16, by first | rfl | go_num, by omega, by omega, hid ⟨HR.out.1, ?_, ?_, HR.out.2⟩⟩
                · repeat (first | exact HBK.out | with_reducible refine Blk.drew ?_ | with_reducible refine Blk.drewN ?_ _)
                · repeat (first | exact Hkp.out | with_reducible refine Keeps.drew ?_ | with_reducible refine Keeps.drewN ?_ _)
              case measure => have := HLT.out; simp [intOf]; omega
          · have g3 : decide (z < X + Y) = false := decide_eq_false hlt
            have HE := hid (cls_no1 HX.out.1 HX.out.2.1 HX.out.2.2 hz hlt hsl)
            have HBK := hid hblk
            have Hkp := hid hkp
            clear hkp
            clear hz hblk hsl hlt
            go_wp2_with fail
            go_quiet (fail)
            go_wp2_with fail
            go_roundw
            case rel =>
              refine ⟨2, by first | rfl | go_num, by omega, hid ⟨?_, ?_, fun j hj => ?_⟩⟩
              · repeat (first | exact HBK.out | with_reducible refine Blk.drew ?_ | with_reducible refine Blk.drewN ?_ _)
              · repeat (first | exact Hkp.out | with_reducible refine Keeps.drew ?_ | with_reducible refine Keeps.drewN ?_ _)
              · by_cases e : j < 1
                · exact Hno.out j e
                · obtain rfl : j = 1 := by omega
                  exact HE.out
            case measure => simp [intOf]
      · have c1 := hblk.cell 2
        have c2 := hblk.cell 8
        change _ = some (Value.int .i64 (p.bK 2)) at c1
        change _ = some (Value.int .i64 (p.sK 2)) at c2
        have hbk := HWF.out.b 2
        have hsk := HWF.out.s 2
        have hs0 := HS.out 2 (by omega)
        generalize hX : p.bK 2 = X at *
        generalize hY : p.sK 2 = Y at *
        obtain ⟨n, hn⟩ : ∃ n : Nat, Y = 64 * (n : Int) := ⟨P.n 2, by rw [hs0]; simp only [sz]; omega⟩
        have HX := hid (And.intro hX (And.intro hY hn))
        have HBK := hid hblk
        clear hX hY hn hs0 hblk
        rw [show (((2 : Nat)) : Int) = (2 : Int) from rfl]
        obtain ⟨x0, x1⟩ := hbk
        obtain ⟨y0, y1⟩ := hsk
        go_wp2_with fail
        clear c1 c2
        go_loopw [7] (fun vb ws => ∃ (i : Nat) (z : Int), vb = .int .i64 z ∧ 0 ≤ z ∧ z ≤ 200000 ∧ Hid (z = X + 64 * (i : Int) ∧ Blk ws B p.flat ∧ Keeps (· < B) w ws ∧ ∀ j : Nat, j < i → ¬ (X + 64 * (j : Int) ≤ a ∧ a < X + 64 * (j : Int) + 64))) (fun b _ => (X + Y - intOf b).toNat)
        case atStart =>
          refine ⟨0, X, by first | rfl | go_num, x0, by omega, hid ⟨by omega, ?_, ?_, fun j h => by omega⟩⟩
          · repeat (first | exact HBK.out | with_reducible refine Blk.drew ?_ | with_reducible refine Blk.drewN ?_ _)
          · repeat (first | exact Hkp.out | with_reducible refine Keeps.drew ?_ | with_reducible refine Keeps.drewN ?_ _)
        case round =>
          clear HBK Hkp
          obtain ⟨i, z, rfl, hz0, hz1, HH⟩ := hrel
          obtain ⟨hz, hblk, hkp, hsl⟩ := HH.out
          clear HH
          have c1 := hblk.cell 2
          have c2 := hblk.cell 8
          change _ = some (Value.int .i64 (p.bK 2)) at c1
          change _ = some (Value.int .i64 (p.sK 2)) at c2
          rw [HX.out.1] at c1
          rw [HX.out.2.1] at c2
          have gXY : IntKind.i64.wrap (X + Y) = X + Y := IntWalk.i64_in _ (by omega)
          by_cases hlt : z < X + Y
          · have g3 : decide (z < X + Y) = true := decide_eq_true hlt
            have hz2 : z ≤ 131072 := by omega
            have gS : IntKind.i64.wrap (z + 64) = z + 64 := IntWalk.i64_in _ (by omega)
            have HLT := hid hlt
            clear hlt
            by_cases h1 : z ≤ a
            · have g1 : a ≥ z := h1
              have gd : IntKind.i64.wrap (a - z) = a - z := IntWalk.i64_in _ (by omega)
              by_cases h2 : a < z + 64
              · have g2 : decide (a < z + 64) = true := decide_eq_true h2
                have HE := hid (cls_at2 HX.out.1 HX.out.2.1 HX.out.2.2 hz h1 h2 HLT.out Hno.out)
                have Hkp := hid hkp
                clear hkp
                clear hz hblk hsl h2
                go_wp2_with fail
                go_quiet (fail)
                go_wp2_with fail
                refine (slab_at2 _).mono ?_
                rintro e w2 ⟨rfl, rfl⟩
                go_wp2_with fail
                refine hR'.out _ _ ⟨?_, ?_⟩
                · rw [HE.out]; rfl
                · repeat (first | exact Hkp.out | with_reducible refine Keeps.drew ?_ | with_reducible refine Keeps.drewN ?_ _)
              · have g2 : decide (a < z + 64) = false := decide_eq_false h2
                have HR := hid (show z + 64 = X + 64 * ((i + 1 : Nat) : Int) ∧ ∀ j : Nat, j < i + 1 → ¬ (X + 64 * (j : Int) ≤ a ∧ a < X + 64 * (j : Int) + 64) from ⟨by omega, fun j hj hh => by
                  by_cases e : j < i
                  · exact hsl j e hh
                  · obtain rfl : j = i := by omega
                    omega⟩)
                have HBK := hid hblk
                have Hkp := hid hkp
                clear hkp
                clear hz hblk hsl h2
                go_wp2_with fail
                go_quiet (fail)
                go_wp2_with fail
                refine (slab_at2 _).mono ?_
                rintro e w2 ⟨rfl, rfl⟩
                go_wp2_with fail
                refine (slab_at2 _).mono ?_
                rintro e w2 ⟨rfl, rfl⟩
                go_wp2_with fail
                go_roundw
                case rel =>
                  refine ⟨i + 1, z + 64, by first | rfl | go_num, by omega, by omega, hid ⟨HR.out.1, ?_, ?_, HR.out.2⟩⟩
                  · repeat (first | exact HBK.out | with_reducible refine Blk.drew ?_ | with_reducible refine Blk.drewN ?_ _)
                  · repeat (first | exact Hkp.out | with_reducible refine Keeps.drew ?_ | with_reducible refine Keeps.drewN ?_ _)
                case measure => have := HLT.out; simp [intOf]; omega
            · have g1 : ¬ a ≥ z := h1
              have g1' : decide (a ≥ z) = false := decide_eq_false h1
              have HR := hid (show z + 64 = X + 64 * ((i + 1 : Nat) : Int) ∧ ∀ j : Nat, j < i + 1 → ¬ (X + 64 * (j : Int) ≤ a ∧ a < X + 64 * (j : Int) + 64) from ⟨by omega, fun j hj hh => by
                by_cases e : j < i
                · exact hsl j e hh
                · obtain rfl : j = i := by omega
                  omega⟩)
              have HBK := hid hblk
              have Hkp := hid hkp
              clear hkp
              clear hz hblk hsl h1
              go_wp2_with fail
              go_quiet (fail)
              go_wp2_with fail
              refine (slab_at2 _).mono ?_
              rintro e w2 ⟨rfl, rfl⟩
              go_wp2_with fail
              go_roundw
              case rel =>
                refine ⟨i + 1, z + 64, by first | rfl | go_num, by omega, by omega, hid ⟨HR.out.1, ?_, ?_, HR.out.2⟩⟩
                · repeat (first | exact HBK.out | with_reducible refine Blk.drew ?_ | with_reducible refine Blk.drewN ?_ _)
                · repeat (first | exact Hkp.out | with_reducible refine Keeps.drew ?_ | with_reducible refine Keeps.drewN ?_ _)
              case measure => have := HLT.out; simp [intOf]; omega
          · have g3 : decide (z < X + Y) = false := decide_eq_false hlt
            have HE := hid (cls_no2 HX.out.1 HX.out.2.1 HX.out.2.2 hz hlt hsl)
            have HBK := hid hblk
            have Hkp := hid hkp
            clear hkp
            clear hz hblk hsl hlt
            go_wp2_with fail
            go_quiet (fail)
            go_wp2_with fail
            go_roundw
            case rel =>
              refine ⟨3, by first | rfl | go_num, by omega, hid ⟨?_, ?_, fun j hj => ?_⟩⟩
              · repeat (first | exact HBK.out | with_reducible refine Blk.drew ?_ | with_reducible refine Blk.drewN ?_ _)
              · repeat (first | exact Hkp.out | with_reducible refine Keeps.drew ?_ | with_reducible refine Keeps.drewN ?_ _)
              · by_cases e : j < 2
                · exact Hno.out j e
                · obtain rfl : j = 2 := by omega
                  exact HE.out
            case measure => simp [intOf]
      · have c1 := hblk.cell 3
        have c2 := hblk.cell 9
        change _ = some (Value.int .i64 (p.bK 3)) at c1
        change _ = some (Value.int .i64 (p.sK 3)) at c2
        have hbk := HWF.out.b 3
        have hsk := HWF.out.s 3
        have hs0 := HS.out 3 (by omega)
        generalize hX : p.bK 3 = X at *
        generalize hY : p.sK 3 = Y at *
        obtain ⟨n, hn⟩ : ∃ n : Nat, Y = 256 * (n : Int) := ⟨P.n 3, by rw [hs0]; simp only [sz]; omega⟩
        have HX := hid (And.intro hX (And.intro hY hn))
        have HBK := hid hblk
        clear hX hY hn hs0 hblk
        rw [show (((3 : Nat)) : Int) = (3 : Int) from rfl]
        obtain ⟨x0, x1⟩ := hbk
        obtain ⟨y0, y1⟩ := hsk
        go_wp2_with fail
        clear c1 c2
        go_loopw [7] (fun vb ws => ∃ (i : Nat) (z : Int), vb = .int .i64 z ∧ 0 ≤ z ∧ z ≤ 200000 ∧ Hid (z = X + 256 * (i : Int) ∧ Blk ws B p.flat ∧ Keeps (· < B) w ws ∧ ∀ j : Nat, j < i → ¬ (X + 256 * (j : Int) ≤ a ∧ a < X + 256 * (j : Int) + 256))) (fun b _ => (X + Y - intOf b).toNat)
        case atStart =>
          refine ⟨0, X, by first | rfl | go_num, x0, by omega, hid ⟨by omega, ?_, ?_, fun j h => by omega⟩⟩
          · repeat (first | exact HBK.out | with_reducible refine Blk.drew ?_ | with_reducible refine Blk.drewN ?_ _)
          · repeat (first | exact Hkp.out | with_reducible refine Keeps.drew ?_ | with_reducible refine Keeps.drewN ?_ _)
        case round =>
          clear HBK Hkp
          obtain ⟨i, z, rfl, hz0, hz1, HH⟩ := hrel
          obtain ⟨hz, hblk, hkp, hsl⟩ := HH.out
          clear HH
          have c1 := hblk.cell 3
          have c2 := hblk.cell 9
          change _ = some (Value.int .i64 (p.bK 3)) at c1
          change _ = some (Value.int .i64 (p.sK 3)) at c2
          rw [HX.out.1] at c1
          rw [HX.out.2.1] at c2
          have gXY : IntKind.i64.wrap (X + Y) = X + Y := IntWalk.i64_in _ (by omega)
          by_cases hlt : z < X + Y
          · have g3 : decide (z < X + Y) = true := decide_eq_true hlt
            have hz2 : z ≤ 131072 := by omega
            have gS : IntKind.i64.wrap (z + 256) = z + 256 := IntWalk.i64_in _ (by omega)
            have HLT := hid hlt
            clear hlt
            by_cases h1 : z ≤ a
            · have g1 : a ≥ z := h1
              have gd : IntKind.i64.wrap (a - z) = a - z := IntWalk.i64_in _ (by omega)
              by_cases h2 : a < z + 256
              · have g2 : decide (a < z + 256) = true := decide_eq_true h2
                have HE := hid (cls_at3 HX.out.1 HX.out.2.1 HX.out.2.2 hz h1 h2 HLT.out Hno.out)
                have Hkp := hid hkp
                clear hkp
                clear hz hblk hsl h2
                go_wp2_with fail
                go_quiet (fail)
                go_wp2_with fail
                refine (slab_at3 _).mono ?_
                rintro e w2 ⟨rfl, rfl⟩
                go_wp2_with fail
                refine hR'.out _ _ ⟨?_, ?_⟩
                · rw [HE.out]; rfl
                · repeat (first | exact Hkp.out | with_reducible refine Keeps.drew ?_ | with_reducible refine Keeps.drewN ?_ _)
              · have g2 : decide (a < z + 256) = false := decide_eq_false h2
                have HR := hid (show z + 256 = X + 256 * ((i + 1 : Nat) : Int) ∧ ∀ j : Nat, j < i + 1 → ¬ (X + 256 * (j : Int) ≤ a ∧ a < X + 256 * (j : Int) + 256) from ⟨by omega, fun j hj hh => by
                  by_cases e : j < i
                  · exact hsl j e hh
                  · obtain rfl : j = i := by omega
                    omega⟩)
                have HBK := hid hblk
                have Hkp := hid hkp
                clear hkp
                clear hz hblk hsl h2
                go_wp2_with fail
                go_quiet (fail)
                go_wp2_with fail
                refine (slab_at3 _).mono ?_
                rintro e w2 ⟨rfl, rfl⟩
                go_wp2_with fail
                refine (slab_at3 _).mono ?_
                rintro e w2 ⟨rfl, rfl⟩
                go_wp2_with fail
                go_roundw
                case rel =>
                  refine ⟨i + 1, z + 256, by first | rfl | go_num, by omega, by omega, hid ⟨HR.out.1, ?_, ?_, HR.out.2⟩⟩
                  · repeat (first | exact HBK.out | with_reducible refine Blk.drew ?_ | with_reducible refine Blk.drewN ?_ _)
                  · repeat (first | exact Hkp.out | with_reducible refine Keeps.drew ?_ | with_reducible refine Keeps.drewN ?_ _)
                case measure => have := HLT.out; simp [intOf]; omega
            · have g1 : ¬ a ≥ z := h1
              have g1' : decide (a ≥ z) = false := decide_eq_false h1
              have HR := hid (show z + 256 = X + 256 * ((i + 1 : Nat) : Int) ∧ ∀ j : Nat, j < i + 1 → ¬ (X + 256 * (j : Int) ≤ a ∧ a < X + 256 * (j : Int) + 256) from ⟨by omega, fun j hj hh => by
                by_cases e : j < i
                · exact hsl j e hh
                · obtain rfl : j = i := by omega
                  omega⟩)
              have HBK := hid hblk
              have Hkp := hid hkp
              clear hkp
              clear hz hblk hsl h1
              go_wp2_with fail
              go_quiet (fail)
              go_wp2_with fail
              refine (slab_at3 _).mono ?_
              rintro e w2 ⟨rfl, rfl⟩
              go_wp2_with fail
              go_roundw
              case rel =>
                refine ⟨i + 1, z + 256, by first | rfl | go_num, by omega, by omega, hid ⟨HR.out.1, ?_, ?_, HR.out.2⟩⟩
                · repeat (first | exact HBK.out | with_reducible refine Blk.drew ?_ | with_reducible refine Blk.drewN ?_ _)
                · repeat (first | exact Hkp.out | with_reducible refine Keeps.drew ?_ | with_reducible refine Keeps.drewN ?_ _)
              case measure => have := HLT.out; simp [intOf]; omega
          · have g3 : decide (z < X + Y) = false := decide_eq_false hlt
            have HE := hid (cls_no3 HX.out.1 HX.out.2.1 HX.out.2.2 hz hlt hsl)
            have HBK := hid hblk
            have Hkp := hid hkp
            clear hkp
            clear hz hblk hsl hlt
            go_wp2_with fail
            go_quiet (fail)
            go_wp2_with fail
            go_roundw
            case rel =>
              refine ⟨4, by first | rfl | go_num, by omega, hid ⟨?_, ?_, fun j hj => ?_⟩⟩
              · repeat (first | exact HBK.out | with_reducible refine Blk.drew ?_ | with_reducible refine Blk.drewN ?_ _)
              · repeat (first | exact Hkp.out | with_reducible refine Keeps.drew ?_ | with_reducible refine Keeps.drewN ?_ _)
              · by_cases e : j < 3
                · exact Hno.out j e
                · obtain rfl : j = 3 := by omega
                  exact HE.out
            case measure => simp [intOf]
    · obtain rfl : k = 4 := by omega
      clear hblk
      go_wp2_with fail
      refine hR'.out _ _ ⟨?_, ?_⟩
      · rw [HCN.out (fun j hj => Hno.out j hj)]; rfl
      · repeat (first | exact Hkp.out | with_reducible refine Keeps.drew ?_ | with_reducible refine Keeps.drewN ?_ _)

end Go.Proofs.YtbmgmjfpoepgpaaDoor
