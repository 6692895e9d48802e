/- TableVersions: table.Row, the closures of 'change'. -/
import Derived.Test.YtjnaibmnpajfdaaLawTD
import Derived.Test.YtjnaibmnpajfdaaPlainV
namespace Go.Proofs.Ytjnaibmnpajfdaa
open Go.RowKit

def rowT (b d : Int) : Tree RowM := .load (b + 4 * d + 0) fun x0 => .load (b + 4 * d + 1) fun x1 => .load (b + 4 * d + 2) fun x2 => .load (b + 4 * d + 3) fun x3 => .ret ⟨x0, x1, x2, x3⟩
def RowM.vals (x : RowM) : List Value := [.int .u32 x.birth, .int .u32 x.id, .int .u32 x.len, .int .u32 x.tomb]

theorem rowT_ideal (cs : List Int) (rows : List RowM) (h : TabAt cs rows) (d : Nat) (x : RowM) (hx : rows[d]? = some x) : (rowT 0 d).ideal cs = some (x, cs, 4) := by
  have hl := h.len
  have hle := h.le
  have hd := (List.getElem?_eq_some_iff.1 hx).1
  obtain ⟨e0, e1, e2, e3⟩ := h.row d x hx
  unfold rowT Tree.ideal
  rw [if_pos (by omega), show ((0 : Int) + 4 * d + 0).toNat = 4 * d by omega, e0]
  dsimp only
  unfold Tree.ideal
  rw [if_pos (by omega), show ((0 : Int) + 4 * d + 1).toNat = 4 * d + 1 by omega, e1]
  dsimp only
  unfold Tree.ideal
  rw [if_pos (by omega), show ((0 : Int) + 4 * d + 2).toNat = 4 * d + 2 by omega, e2]
  dsimp only
  unfold Tree.ideal
  rw [if_pos (by omega), show ((0 : Int) + 4 * d + 3).toNat = 4 * d + 3 by omega, e3]
  rfl

theorem rowT_exec {b d : Int} {s s0 s1 s2 s3 : St} {x0 x1 x2 x3 : Int} (e0 : s.load (b + 4 * d + 0) = (x0, s0)) (e1 : s0.load (b + 4 * d + 1) = (x1, s1)) (e2 : s1.load (b + 4 * d + 2) = (x2, s2)) (e3 : s2.load (b + 4 * d + 3) = (x3, s3)) :
    (rowT b d).exec s = (⟨x0, x1, x2, x3⟩, s3) := by
  have e : (rowT b d).exec s = (⟨(s.load (b + 4 * d + 0)).1, ((s.load (b + 4 * d + 0)).2.load (b + 4 * d + 1)).1, (((s.load (b + 4 * d + 0)).2.load (b + 4 * d + 1)).2.load (b + 4 * d + 2)).1, ((((s.load (b + 4 * d + 0)).2.load (b + 4 * d + 1)).2.load (b + 4 * d + 2)).2.load (b + 4 * d + 3)).1⟩, ((((s.load (b + 4 * d + 0)).2.load (b + 4 * d + 1)).2.load (b + 4 * d + 2)).2.load (b + 4 * d + 3)).2) := rfl
  rw [e, e0, e1, e2, e3]

set_option maxHeartbeats 400000 in
theorem table_row {w : World} {K : Nat → Prop} {r m c : Nat} {s : St} (h : RM w K r m c s) (b d : Int) (hb : Small b) (hd : Small d) :
    Calls Try.prog 62 #[.pointer (some ⟨r, 0, none⟩), .int .i64 b, .int .i64 d] w fun e w' =>
      e = .returned (.agg ((rowT b d).exec s).1.vals.toArray) ∧ RM w' K r m c ((rowT b d).exec s).2 ∧ Keeps K w w' := by
  obtain ⟨b0, b1⟩ := hb
  obtain ⟨d0, d1⟩ := hd
  have H := hid (h.more (.cells #[.int .u32 0, .int .u32 0, .int .u32 0, .int .u32 0] 107))
  have HB := hid (Blk.new w [.int .u32 0, .int .u32 0, .int .u32 0, .int .u32 0] 107)
  have K0 := hid ((Keeps.refl K w).alloc h.lt (.cells #[.int .u32 0, .int .u32 0, .int .u32 0, .int .u32 0] 107))
  have hpn : ¬ K w.heap.size := fun e => Nat.lt_irrefl _ (h.lt _ e)
  generalize hres : (rowT b d).exec s = res
  have HRes := hid hres
  clear hres h
  refine calls_hide fun R' hR' => ?_
  go_enter Try.func62, Try.ntmps62
  go_wp2_with fail
  generalize hw0 : w.alloc (.cells #[.int .u32 0, .int .u32 0, .int .u32 0, .int .u32 0] 107) = w0 at *
  generalize hp : w.heap.size = p at *
  clear hw0 hp
  have HPN := hid hpn
  clear hpn
  refine (step_load H.out _).mono ?_
  rintro e w1 ⟨rfl, h1, k1⟩
  generalize hls : s.load (b + 4 * d) = ls at *
  obtain ⟨x0, s0⟩ := ls
  have HL0 := hid hls
  clear hls
  simp only at h1
  have hb1 := HB.out.keep k1 (Or.inr rfl)
  have H1 := hid h1
  have HB1 := hid hb1
  have K1 := hid (K0.out.trans (k1.mono fun b hb => Or.inl hb))
  clear h1 k1 hb1
  go_wp2_with fail
  refine (step_load H1.out _).mono ?_
  rintro e w2 ⟨rfl, h2, k2⟩
  generalize hls : s0.load (b + 4 * d + 1) = ls at *
  obtain ⟨x1, s1⟩ := ls
  have HL1 := hid hls
  clear hls
  simp only at h2
  have hb2 := HB1.out.keep k2 (Or.inr rfl)
  have H2 := hid h2
  have HB2 := hid hb2
  have K2 := hid (K1.out.trans (k2.mono fun b hb => Or.inl hb))
  clear h2 k2 hb2
  go_wp2_with fail
  refine (step_load H2.out _).mono ?_
  rintro e w3 ⟨rfl, h3, k3⟩
  generalize hls : s1.load (b + 4 * d + 2) = ls at *
  obtain ⟨x2, s2⟩ := ls
  have HL2 := hid hls
  clear hls
  simp only at h3
  have hb3 := HB2.out.keep k3 (Or.inr rfl)
  have H3 := hid h3
  have HB3 := hid hb3
  have K3 := hid (K2.out.trans (k3.mono fun b hb => Or.inl hb))
  clear h3 k3 hb3
  go_wp2_with fail
  refine (step_load H3.out _).mono ?_
  rintro e w4 ⟨rfl, h4, k4⟩
  generalize hls : s2.load (b + 4 * d + 3) = ls at *
  obtain ⟨x3, s3⟩ := ls
  have HL3 := hid hls
  clear hls
  simp only at h4
  have hb4 := HB3.out.keep k4 (Or.inr rfl)
  have c0 := hb4.cell 0
  have c1 := hb4.cell 1
  have c2 := hb4.cell 2
  have c3 := hb4.cell 3
  have fz := hb4.free
  simp only [List.getElem?_cons_zero, List.getElem?_cons_succ] at c0 c1 c2 c3
  have H4 := hid h4
  have HB4 := hid hb4
  have K4 := hid (K3.out.trans (k4.mono fun b hb => Or.inl hb))
  clear h4 k4 hb4
  go_wp2
  have hex : (rowT b d).exec s = (⟨x0, x1, x2, x3⟩, s3) := rowT_exec (by rw [Int.add_zero]; exact HL0.out) HL1.out HL2.out HL3.out
  refine bodyPost_ret (v := .agg #[.int .u32 x0, .int .u32 x1, .int .u32 x2, .int .u32 x3]) (by simp [results, Try.results62, go_sem, c0, c1, c2, c3]) rfl (hR'.out _ _ ⟨?_, ?_, ?_⟩)
  · rw [← HRes.out, hex]; rfl
  · rw [← HRes.out, hex]
    exact ((((H4.out.setK (a := ⟨p, 0, none⟩) (Or.inr rfl) _).setK (a := ⟨p, 1, none⟩) (Or.inr rfl) _).setK (a := ⟨p, 2, none⟩) (Or.inr rfl) _).setK (a := ⟨p, 3, none⟩) (Or.inr rfl) _).mono fun b hb => Or.inl hb
  · exact (((K4.out.setCell HPN.out _).setCell HPN.out _).setCell HPN.out _).setCell HPN.out _
end Go.Proofs.Ytjnaibmnpajfdaa
