/- TableVersions: 'change', walked. -/
import Derived.Test.YtjnaibmnpajfdaaVersB
namespace Go.Proofs.Ytjnaibmnpajfdaa
open Go.RowKit

def changeM (kill : Bool) (i id ln : Int) (rows : List RowM) (v : Int) : List RowM × Int :=
  if kill then
    match rows[(i % rows.length).toNat]? with
    | some x => if x.tomb = 0 then (rows.set (i % rows.length).toNat { x with tomb := v + 1 }, v + 1) else (rows, v)
    | none => (rows, v)
  else if rows.length = 16 then (rows, v) else (rows ++ [⟨v + 1, id, ln, 0⟩], v + 1)

def oldK (w : World) (m c : Nat) (b : Nat) : Prop := b < w.heap.size ∧ b ≠ m ∧ b ≠ c

set_option maxRecDepth 100000 in
set_option maxHeartbeats 2000000 in
theorem change_call {w : World} {m c : Nat} {μ : MemS} (hm : MemAt w m c μ) (kill : Bool) (i id ln v : Int) (rows : List RowM) (hT : TabAt μ.cells rows) (hi0 : 0 ≤ i) (hi1 : i ≤ 255) (hid0 : U32 id) (hln : U32 ln) (hv0 : 0 ≤ v) (hv1 : v ≤ 900) :
    Calls Try.prog 36 #[.pointer (some ⟨m, 0, none⟩), .agg #[.bool kill, .int .u8 i, .int .u32 id, .int .u32 ln], .int .i64 rows.length, .int .u32 v] w fun e w' =>
      e = .returned (.tuple #[.int .i64 (changeM kill i id ln rows v).1.length, .int .u32 (changeM kill i id ln rows v).2]) ∧ (∃ μ', MemAt w' m c μ' ∧ TabAt μ'.cells (changeM kill i id ln rows v).1) ∧ Keeps (oldK w m c) w w' := by
  have HM := hid hm
  have HT := hid hT
  have HI := hid hid0
  have HL := hid hln
  have hrl := hT.le
  have lm := hm.obj.lt
  have lc := hm.cells.lt
  clear hm hT hid0 hln
  refine calls_hide fun R' hR' => ?_
  go_enter Try.func36, Try.ntmps36
  have p0 := ((Blk.new w [.bool kill, .int .u8 i, .int .u32 id, .int .u32 ln] 65).alloc (.cells #[.int .i64 rows.length] 3)).alloc (.cells #[.int .u32 v] 36)
  have p1 := (Blk.new (w.alloc (.cells #[.bool kill, .int .u8 i, .int .u32 id, .int .u32 ln] 65)) [.int .i64 rows.length] 3).alloc (.cells #[.int .u32 v] 36)
  have p2 := Blk.new ((w.alloc (.cells #[.bool kill, .int .u8 i, .int .u32 id, .int .u32 ln] 65)).alloc (.cells #[.int .i64 rows.length] 3)) [.int .u32 v] 36
  have q0 : Keeps (· < w.heap.size) w (((w.alloc (.cells #[.bool kill, .int .u8 i, .int .u32 id, .int .u32 ln] 65)).alloc (.cells #[.int .i64 rows.length] 3)).alloc (.cells #[.int .u32 v] 36)) :=
    (((Keeps.refl _ w).alloc (fun b hb => hb) _).alloc (fun b hb => by simp; omega) _).alloc (fun b hb => by simp; omega) _
  have z0 : (((w.alloc (.cells #[.bool kill, .int .u8 i, .int .u32 id, .int .u32 ln] 65)).alloc (.cells #[.int .i64 rows.length] 3)).alloc (.cells #[.int .u32 v] 36)).heap.size = w.heap.size + 3 := by simp
  simp only [World.size_alloc] at p1 p2
  have P0 := hid p0
  have P1 := hid p1
  have P2 := hid p2
  have Q0 := hid q0
  have Z0 := hid z0
  clear p0 p1 p2 q0 z0
  have hK0 : ∀ b, oldK w m c b → b < w.heap.size := fun b hb => hb.1
  cases kill
  · by_cases h16 : rows.length = 16
    · have hb16 : ((rows.length : Int) == 16) = true := by simp [h16]
      have hcm : changeM false i id ln rows v = (rows, v) := by simp [changeM, h16]
      have HCM := hid hcm
      clear h16 hcm
      go_wp2_with fail
      go_quiet (fail)
      go_wp2
      refine hR'.out _ _ ⟨by rw [HCM.out]; rfl, ⟨μ, ?_, by rw [HCM.out]; exact HT.out⟩, ?_⟩
      · exact HM.out.keep (Q0.out.drewN _) lm lc
      · exact (Q0.out.drewN _).mono hK0
    · have hb16 : ((rows.length : Int) == 16) = false := by simp; omega
      have hcm : changeM false i id ln rows v = (rows ++ [⟨v + 1, id, ln, 0⟩], v + 1) := by simp [changeM, h16]
      have hl16 : rows.length < 16 := by omega
      have hTn := HT.out.add hl16 id ln (v + 1)
      have HTN := hid hTn
      have HCM := hid hcm
      clear h16 hcm hTn
      go_wp2_with fail
      generalize hw0 : ((w.alloc (.cells #[.bool false, .int .u8 i, .int .u32 id, .int .u32 ln] 65)).alloc (.cells #[.int .i64 rows.length] 3)).alloc (.cells #[.int .u32 v] 36) = w0 at *
      generalize hws : w.heap.size = ws at *
      have HW0 := hid hw0
      have HWS := hid hws
      clear hw0 hws
      have cn := P1.out.cell 0
      have cv := P2.out.cell 0
      simp only [List.getElem?_cons_zero] at cn cv
      refine (whole11_plain (K := fun b => (b < ws ∧ b ≠ m ∧ b ≠ c) ∨ (ws ≤ b ∧ b < ws + 3)) (HM.out.keep Q0.out lm lc) (by rintro (h | h); exact h.2.1 rfl; omega) (by rintro (h | h); exact h.2.2 rfl; omega)
        (by rintro b (h | h); have := Z0.out; omega; have := Z0.out; omega) _ #[.pointer (some ⟨ws + 1, 0, none⟩), .pointer (some ⟨ws, 0, none⟩), .pointer (some ⟨ws + 1 + 1, 0, none⟩)] enters_ch3 (layT 0 rows.length id ln (v + 1))
        (x := ()) (n := 3) (layT_ideal μ.cells 0 rows.length id ln (v + 1) (by have := HT.out.len; omega)) (by omega) ?_).mono ?_
      · intro w3 r s1 hk3 hR
        exact ch3_call hR (ws + 1) ws (ws + 1 + 1) rows.length v id ln _ _ (by omega) hv0 (by omega) HI.out HL.out (P1.out.keep hk3 (Or.inr ⟨by omega, by omega⟩)) (P0.out.keep hk3 (Or.inr ⟨by omega, by omega⟩)) (P2.out.keep hk3 (Or.inr ⟨by omega, by omega⟩))
      rintro e w3 ⟨rfl, ⟨μ3, hm3, hc3⟩, hk3⟩
      have dn := (P1.out.keep hk3 (Or.inr ⟨by omega, by omega⟩)).cell 0
      have dv := (P2.out.keep hk3 (Or.inr ⟨by omega, by omega⟩)).cell 0
      simp only [List.getElem?_cons_zero] at dn dv
      have HM3 := hid hm3
      have HC3 := hid hc3
      have HK3 := hid ((Q0.out.mono (K' := oldK w m c) (fun b hb => HWS.out ▸ hb.1)).trans (hk3.mono fun b hb => Or.inl ⟨HWS.out ▸ hb.1, hb.2.1, hb.2.2⟩))
      clear hm3 hc3 hk3 cn cv
      go_wp2_with fail
      go_quiet (fail)
      go_wp2
      refine hR'.out _ _ ⟨by rw [HCM.out]; simp, ⟨μ3, ?_, by rw [HCM.out, HC3.out]; exact HTN.out⟩, HK3.out.drewN _⟩
      exact HM3.out.keep (K := fun _ => True) ((Keeps.refl _ _).drewN _) trivial trivial
  · by_cases hne : rows.length = 0
    · have hng : ¬ (0 : Int) < (rows.length : Int) := by omega
      have hcm : changeM true i id ln rows v = (rows, v) := by
        have : rows = [] := List.eq_nil_of_length_eq_zero hne
        subst this; rfl
      have HCM := hid hcm
      clear hne hcm
      go_wp2_with fail
      go_quiet (fail)
      go_wp2
      refine hR'.out _ _ ⟨by rw [HCM.out]; rfl, ⟨μ, ?_, by rw [HCM.out]; exact HT.out⟩, ?_⟩
      · exact HM.out.keep (Q0.out.drewN _) lm lc
      · exact (Q0.out.drewN _).mono hK0
    · have hpos : (0 : Int) < (rows.length : Int) := by omega
      have hd0 : 0 ≤ i % (rows.length : Int) := Int.emod_nonneg _ (by omega)
      have hd1 : i % (rows.length : Int) < (rows.length : Int) := Int.emod_lt_of_pos _ hpos
      obtain ⟨d, hd⟩ := Int.eq_ofNat_of_zero_le hd0
      have hdl : d < rows.length := by omega
      obtain ⟨x, hx⟩ : ∃ x, rows[d]? = some x := ⟨_, List.getElem?_eq_getElem hdl⟩
      have hrow := rowT_ideal μ.cells rows HT.out d x hx
      have hcm : changeM true i id ln rows v = if x.tomb = 0 then (rows.set d { x with tomb := v + 1 }, v + 1) else (rows, v) := by
        unfold changeM
        rw [if_pos rfl, hd]
        simp only [Int.toNat_natCast, hx]
      have HCM := hid hcm
      have HX := hid hx
      have HROW := hid hrow
      have HD := hid hd
      have hdI : (d : Int) < 16 := by omega
      clear hne hcm hx hrow hd hd0 hd1
      go_wp2_with fail
      generalize hw0 : ((w.alloc (.cells #[.bool true, .int .u8 i, .int .u32 id, .int .u32 ln] 65)).alloc (.cells #[.int .i64 rows.length] 3)).alloc (.cells #[.int .u32 v] 36) = w0 at *
      generalize hws : w.heap.size = ws at *
      have HW0 := hid hw0
      have HWS := hid hws
      clear hw0 hws
      have z0 := Z0.out
      have p3 := (Blk.new w0 [.int .i64 (i % (rows.length : Int))] 3).alloc (.cells #[.int .u32 0, .int .u32 0, .int .u32 0, .int .u32 0] 107)
      have p4 := Blk.new (w0.alloc (.cells #[.int .i64 (i % (rows.length : Int))] 3)) [.int .u32 0, .int .u32 0, .int .u32 0, .int .u32 0] 107
      have q3 : Keeps (· < w0.heap.size) w0 ((w0.alloc (.cells #[.int .i64 (i % (rows.length : Int))] 3)).alloc (.cells #[.int .u32 0, .int .u32 0, .int .u32 0, .int .u32 0] 107)) :=
        ((Keeps.refl _ _).alloc (fun b hb => hb) _).alloc (fun b hb => by simp; omega) _
      have z3 : ((w0.alloc (.cells #[.int .i64 (i % (rows.length : Int))] 3)).alloc (.cells #[.int .u32 0, .int .u32 0, .int .u32 0, .int .u32 0] 107)).heap.size = w0.heap.size + 2 := by simp
      simp only [World.size_alloc] at p4
      rw [z0] at p3 p4 q3 z3
      generalize hw3 : (w0.alloc (.cells #[.int .i64 (i % (rows.length : Int))] 3)).alloc (.cells #[.int .u32 0, .int .u32 0, .int .u32 0, .int .u32 0] 107) = w3 at *
      have HW3 := hid hw3
      rw [HD.out] at p3
      have P3 : Hid (Blk w3 (ws + 1 + 1 + 1) [.int .i64 d]) := p3
      have P4 : Hid (Blk w3 (ws + 1 + 1 + 1 + 1) [.int .u32 0, .int .u32 0, .int .u32 0, .int .u32 0]) := p4
      have Q3 := hid q3
      have Z3 := hid z3
      clear hw3 p3 p4 q3 z3 z0
      have hz3 := Z3.out
      have P13 := hid (P1.out.keep Q3.out (by omega))
      have P23 := hid (P2.out.keep Q3.out (by omega))
      have HM3 := hid ((HM.out.keep Q0.out lm lc).keep Q3.out (by omega) (by omega))
      have KW3 := hid ((Q0.out.mono (K' := oldK w m c) (fun b hb => HWS.out ▸ hb.1)).trans (Q3.out.mono fun b hb => by have := hb.1; rw [HWS.out] at this; omega))
      refine (whole11 (K := fun b => (b < ws ∧ b ≠ m ∧ b ≠ c) ∨ (ws ≤ b ∧ b < ws + 5)) HM3.out (by rintro (h | h); exact h.2.1 rfl; omega) (by rintro (h | h); exact h.2.2 rfl; omega)
        (by rintro b (h | h); omega; omega) _ #[.pointer (some ⟨ws + 1 + 1 + 1, 0, none⟩), .pointer (some ⟨ws + 1 + 1 + 1 + 1, 0, none⟩)] enters_ch1 (rowT 0 d) HROW.out (by omega)
        (fun w1 => Keeps (fun b => (b < ws ∧ b ≠ m ∧ b ≠ c) ∨ (ws ≤ b ∧ b < ws + 4)) w3 w1 ∧ ∃ y0 y1 y2 y3, Blk w1 (ws + 1 + 1 + 1 + 1) [y0, y1, y2, y3]) (fun _ y w1 => Blk w1 (ws + 1 + 1 + 1 + 1) y.vals) ⟨Keeps.refl _ _, _, _, _, _, P4.out⟩
        (by rintro w1 w2 ⟨h1, y0, y1, y2, y3, h2⟩ k; exact ⟨h1.trans (k.mono fun b hb => by rcases hb with h | h; exact Or.inl h; exact Or.inr ⟨h.1, by omega⟩), y0, y1, y2, y3, h2.keep k (Or.inr ⟨by omega, by omega⟩)⟩)
        (by intro r y w1 w2 hr h k; exact h.keep k (fun e => hr (e ▸ Or.inr ⟨by omega, by omega⟩))) ?_).mono ?_
      · rintro w4 r s1 ⟨h1, y0, y1, y2, y3, h2⟩ hR
        refine (ch1_call hR (ws + 1 + 1 + 1) (ws + 1 + 1 + 1 + 1) d y0 y1 y2 y3 (by omega) (P3.out.keep h1 (Or.inr ⟨by omega, by omega⟩)) h2 (Or.inr ⟨by omega, by omega⟩)).mono ?_
        rintro e w5 ⟨rfl, g1, g2, g3⟩
        exact ⟨rfl, g1, ⟨h1.trans (g2.mono fun b hb => ⟨by rcases hb with h | h; exact Or.inl h; exact Or.inr ⟨h.1, by omega⟩, by rcases hb with h | h <;> omega⟩), _, _, _, _, g3⟩, g3⟩
      rintro e w4 ⟨rfl, ⟨μ4, hm4, hc4⟩, ⟨hk4, _⟩, ⟨r4, _, hb4⟩, _⟩
      have ct := hb4.cell 3
      have dn := (P13.out.keep hk4 (Or.inr ⟨by omega, by omega⟩)).cell 0
      have dv := (P23.out.keep hk4 (Or.inr ⟨by omega, by omega⟩)).cell 0
      simp only [RowM.vals, List.getElem?_cons_zero, List.getElem?_cons_succ] at ct dn dv
      have HM4 := hid hm4
      have HC4 := hid hc4
      have P34 := hid (P3.out.keep hk4 (Or.inr ⟨by omega, by omega⟩))
      have P24 := hid (P23.out.keep hk4 (Or.inr ⟨by omega, by omega⟩))
      have P14 := hid (P13.out.keep hk4 (Or.inr ⟨by omega, by omega⟩))
      have HK4 := hid (KW3.out.trans (hk4.mono fun b hb => Or.inl ⟨HWS.out ▸ hb.1, hb.2.1, hb.2.2⟩))
      have hz4 := hk4.size
      clear hm4 hc4 hk4 hb4
      have hcm := HCM.out
      by_cases ht : x.tomb = 0
      · have hbt : (x.tomb == 0) = true := by simp [ht]
        rw [if_pos ht] at hcm
        have HCM2 := hid hcm
        have HTN := hid (HT.out.kill d x HX.out (v + 1))
        clear ht hcm
        go_wp2_with fail
        have lm4 := HM4.out.obj.lt
        have lc4 := HM4.out.cells.lt
        refine (whole11_plain (K := fun b => (b < ws ∧ b ≠ m ∧ b ≠ c) ∨ (ws ≤ b ∧ b < ws + 5)) HM4.out (by rintro (h | h); exact h.2.1 rfl; omega) (by rintro (h | h); exact h.2.2 rfl; omega)
          (by rintro b (h | h); omega; omega) _ #[.pointer (some ⟨ws + 1 + 1 + 1, 0, none⟩), .pointer (some ⟨ws + 1 + 1, 0, none⟩)] enters_ch2 (killT 0 d (v + 1)) (x := ()) (n := 1)
          (by rw [HC4.out]; exact killT_ideal μ.cells d (v + 1) (by have := HT.out.len; omega)) (by omega) ?_).mono ?_
        · intro w5 r s1 hk5 hR
          exact ch2_call hR (ws + 1 + 1 + 1) (ws + 1 + 1) d v (by omega) hv0 (by omega) (P34.out.keep hk5 (Or.inr ⟨by omega, by omega⟩)) (P24.out.keep hk5 (Or.inr ⟨by omega, by omega⟩))
        rintro e w5 ⟨rfl, ⟨μ5, hm5, hc5⟩, hk5⟩
        have fn := (P14.out.keep hk5 (Or.inr ⟨by omega, by omega⟩)).cell 0
        have fv := (P24.out.keep hk5 (Or.inr ⟨by omega, by omega⟩)).cell 0
        simp only [List.getElem?_cons_zero] at fn fv
        have HM5 := hid hm5
        have HC5 := hid hc5
        have HK5 := hid (HK4.out.trans (hk5.mono fun b hb => Or.inl ⟨HWS.out ▸ hb.1, hb.2.1, hb.2.2⟩))
        clear hm5 hc5 hk5 ct dn dv
        go_wp2_with fail
        go_quiet (fail)
        go_wp2
        refine hR'.out _ _ ⟨by rw [HCM2.out]; simp, ⟨μ5, ?_, by rw [HCM2.out, HC5.out]; exact HTN.out⟩, HK5.out.drewN _⟩
        exact HM5.out.keep (K := fun _ => True) ((Keeps.refl _ _).drewN _) trivial trivial
      · have hbt : (x.tomb == 0) = false := by simpa using ht
        rw [if_neg ht] at hcm
        have HCM2 := hid hcm
        clear ht hcm
        go_wp2_with fail
        go_quiet (fail)
        go_wp2
        refine hR'.out _ _ ⟨by rw [HCM2.out]; rfl, ⟨μ4, ?_, by rw [HCM2.out, HC4.out]; exact HT.out⟩, HK4.out.drewN _⟩
        exact HM4.out.keep (K := fun _ => True) ((Keeps.refl _ _).drewN _) trivial trivial
end Go.Proofs.Ytjnaibmnpajfdaa
