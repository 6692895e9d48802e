/- Layer 11's statements: 'seen', and what it captures. -/
import Derived.Test.YtjnaibmnpajfdaaTableB
import Derived.Test.YtjnaibmnpajfdaaWhole11
import Derived.Shelf.Abstract
namespace Go.Proofs.Ytjnaibmnpajfdaa
open Go.RowKit

theorem enters_seen : ∀ (args : Array Value) (w : World), (callFunc 65 args).run Try.prog w = .ok (.enter 65 args) w :=
  enters_of Try.func65 (by kernel_rfl) rfl

theorem seen_own_slice {w : World} {K : Nat → Prop} {v : Value} {l : List SeenM} (h : SeenOwn w K v l) : ∃ A cp, v = .slice A l.length cp := by
  rcases h.1.2 with ⟨h1, h2⟩ | ⟨g, cap, _, h1, _⟩
  · rw [h1, h2]; exact ⟨_, _, rfl⟩
  · exact ⟨_, _, h1⟩

set_option maxRecDepth 100000 in
set_option maxHeartbeats 400000 in
theorem seen1_call {w : World} {K : Nat → Prop} {r m c : Nat} {s : St} (h : RM w K r m c s) (pb pn pv pl : Nat) (b v : Int) (n : Nat) (old : Value) (hb : Small b) (hn : n ≤ 65536) (hv : U32 v)
    (hbb : Blk w pb [.int .i64 b]) (hbn : Blk w pn [.int .i64 n]) (hbv : Blk w pv [.int .u32 v]) (hbl : Blk w pl [old]) (hKl : K pl) :
    Calls Try.prog 65 #[.pointer (some ⟨r, 0, none⟩), .pointer (some ⟨pb, 0, none⟩), .pointer (some ⟨pn, 0, none⟩), .pointer (some ⟨pv, 0, none⟩), .pointer (some ⟨pl, 0, none⟩)] w fun e w' =>
      e = .returned (.tuple #[]) ∧ RM w' K r m c ((seenT b v n 0 []).exec s).2 ∧ Keeps (fun x => K x ∧ x ≠ pl) w w' ∧
        ∃ vv, Blk w' pl [vv] ∧ SeenOwn w' K vv ((seenT b v n 0 []).exec s).1 ∧ vv.ownBlock ≠ some r ∧ vv.ownBlock ≠ some m ∧ vv.ownBlock ≠ some c := by
  have cb := hbb.cell 0
  have cn := hbn.cell 0
  have cv := hbv.cell 0
  simp only [List.getElem?_cons_zero] at cb cn cv
  have H := hid h
  have HBL := hid hbl
  have HV := hid hv
  have HN := hid hn
  clear h hbb hbn hbv hbl hv hn
  refine calls_hide fun R' hR' => ?_
  go_enter Try.func65, Try.ntmps65
  go_wp2_with fail
  refine (table_seen H.out b v n hb HN.out HV.out).mono ?_
  rintro e w1 ⟨vv, rfl, hR, hO, hK⟩
  obtain ⟨A, cp, rfl⟩ := seen_own_slice hO
  have hbl1 := HBL.out.keep hK hKl
  have cl := hbl1.cell 0
  have fl := hbl1.free 0
  simp only [List.getElem?_cons_zero] at cl
  have HR := hid hR
  have HO := hid hO
  have HK := hid hK
  have HBL1 := hid hbl1
  clear hR hO hK hbl1
  generalize ((seenT b v n 0 []).exec s).1.length = len at *
  go_wp2_with fail
  go_end0
  have k1 : Keeps (· ≠ pl) w1 (w1.setCell ⟨pl, 0, none⟩ (.slice A len cp)) := (Keeps.refl _ _).setCell (by simp) _
  have hno : ∀ x, (Value.slice A len cp).ownBlock = some x → x ≠ pl := fun x hx e => HO.out.2 x hx (e ▸ hKl)
  refine hR'.out _ _ ⟨rfl, (HR.out.setK (a := ⟨pl, 0, none⟩) (Or.inl hKl) _).mono (fun b hb => Or.inl hb), (HK.out.mono fun b hb => hb.1).trans (k1.mono fun b hb => hb.2), _, ?_, ⟨own_of_keep HO.out.1 k1 hno, HO.out.2⟩, fun e => HR.out.kr (Or.inr e), fun e => HR.out.km (Or.inr e), fun e => HR.out.kc (Or.inr e)⟩
  simpa using HBL1.out.set 0 (.slice A len cp)

/-- 'seen': what a version sees, at once -/
theorem seen_any {w : World} {K : Nat → Prop} {m c : Nat} {μ : MemS} (hm : MemAt w m c μ) (hKm : ¬ K m) (hKc : ¬ K c) (hlt : ∀ b, K b → b < w.heap.size) (b v : Int) (n : Nat) (hb : Small b) (hn : n ≤ 65536) (hv : U32 v)
    {l : List SeenM} {cs' : List Int} {cnt : Nat} (hid0 : (seenT b v n 0 []).ideal μ.cells = some (l, cs', cnt)) (hcnt : cnt ≤ 65535) :
    Calls Try.prog 37 #[.pointer (some ⟨m, 0, none⟩), .int .i64 b, .int .i64 n, .int .u32 v] w fun e w' =>
      ∃ vv, e = .returned (.tuple #[vv, .bool true]) ∧ (∃ μ', MemAt w' m c μ' ∧ μ'.cells = cs') ∧ SeenOwn w' K vv l ∧ vv.ownBlock ≠ some m ∧ vv.ownBlock ≠ some c ∧ Keeps K w w' := by
  have HM := hid hm
  have HI := hid hid0
  have HLT := hid hlt
  have HV := hid hv
  have HB := hid hb
  clear hm hid0 hlt hv hb
  refine calls_hide fun R' hR' => ?_
  go_enter Try.func37, Try.ntmps37
  go_wp2_with fail
  have hb0 := (((Blk.new w [.int .i64 b] 3).alloc (.cells #[.int .i64 n] 3)).alloc (.cells #[.int .u32 v] 36)).alloc (.cells #[.slice none 0 0] 68)
  have hb1 := ((Blk.new (w.alloc (.cells #[.int .i64 b] 3)) [.int .i64 n] 3).alloc (.cells #[.int .u32 v] 36)).alloc (.cells #[.slice none 0 0] 68)
  have hb2 := (Blk.new ((w.alloc (.cells #[.int .i64 b] 3)).alloc (.cells #[.int .i64 n] 3)) [.int .u32 v] 36).alloc (.cells #[.slice none 0 0] 68)
  have hb3 := Blk.new (((w.alloc (.cells #[.int .i64 b] 3)).alloc (.cells #[.int .i64 n] 3)).alloc (.cells #[.int .u32 v] 36)) [.slice none 0 0] 68
  have hkk : Keeps (· < w.heap.size) w ((((w.alloc (.cells #[.int .i64 b] 3)).alloc (.cells #[.int .i64 n] 3)).alloc (.cells #[.int .u32 v] 36)).alloc (.cells #[.slice none 0 0] 68)) :=
    ((((Keeps.refl _ w).alloc (fun b hb => hb) _).alloc (fun b hb => by simp; omega) _).alloc (fun b hb => by simp; omega) _).alloc (fun b hb => by simp; omega) _
  have hzz : ((((w.alloc (.cells #[.int .i64 b] 3)).alloc (.cells #[.int .i64 n] 3)).alloc (.cells #[.int .u32 v] 36)).alloc (.cells #[.slice none 0 0] 68)).heap.size = w.heap.size + 4 := by simp
  simp only [World.size_alloc] at hb1 hb2 hb3
  generalize hw1 : (((w.alloc (.cells #[.int .i64 b] 3)).alloc (.cells #[.int .i64 n] 3)).alloc (.cells #[.int .u32 v] 36)).alloc (.cells #[.slice none 0 0] 68) = w1 at *
  have B0 := hid hb0
  have B1 := hid hb1
  have B2 := hid hb2
  have B3 := hid hb3
  have HKK := hid hkk
  have HZZ := hid hzz
  clear hb0 hb1 hb2 hb3 hkk hzz hw1
  have hm1 := HM.out.keep HKK.out HM.out.obj.lt HM.out.cells.lt
  have hl1 := HM.out.obj.lt
  have hl2 := HM.out.cells.lt
  have hw := whole11 (w := w1) (K := fun x => K x ∨ (w.heap.size ≤ x ∧ x < w.heap.size + 4)) hm1 (by rintro (h | h); exact hKm h; omega) (by rintro (h | h); exact hKc h; omega)
    (by rintro x (h | h); have := HLT.out x h; have := HZZ.out; omega; have := HZZ.out; omega) 65
    #[.pointer (some ⟨w.heap.size, 0, none⟩), .pointer (some ⟨w.heap.size + 1, 0, none⟩), .pointer (some ⟨w.heap.size + 1 + 1, 0, none⟩), .pointer (some ⟨w.heap.size + 1 + 1 + 1, 0, none⟩)] enters_seen (seenT b v n 0 []) HI.out hcnt
    (fun w2 => Keeps (fun x => K x ∨ (w.heap.size ≤ x ∧ x < w.heap.size + 3)) w1 w2 ∧ ∃ old, Blk w2 (w.heap.size + 1 + 1 + 1) [old])
    (fun r l w2 => ∃ vv, Blk w2 (w.heap.size + 1 + 1 + 1) [vv] ∧ SeenOwn w2 (fun x => K x ∨ (w.heap.size ≤ x ∧ x < w.heap.size + 4)) vv l ∧ vv.ownBlock ≠ some r ∧ vv.ownBlock ≠ some m ∧ vv.ownBlock ≠ some c)
    ⟨Keeps.refl _ _, _, B3.out⟩
    (by rintro w2 w3 ⟨h1, old, h2⟩ hk; exact ⟨h1.trans (hk.mono fun x hx => by rcases hx with h | h; exact Or.inl h; exact Or.inr ⟨h.1, by omega⟩), old, h2.keep hk (Or.inr ⟨by omega, by omega⟩)⟩)
    (by
      rintro r y w2 w3 hr ⟨vv, h1, h2, h3, h4⟩ hk
      exact ⟨vv, h1.keep hk (fun e => hr (e ▸ Or.inr ⟨by omega, by omega⟩)), ⟨own_of_keep h2.1 hk (fun x hx e => h3 (by rw [hx, e])), h2.2⟩, h3, h4⟩)
    (by
      rintro w2 r s2 ⟨h1, old, h2⟩ hR
      refine (seen1_call hR w.heap.size (w.heap.size + 1) (w.heap.size + 1 + 1) (w.heap.size + 1 + 1 + 1) b v n old HB.out hn HV.out (B0.out.keep h1 (Or.inr ⟨by omega, by omega⟩)) (B1.out.keep h1 (Or.inr ⟨by omega, by omega⟩)) (B2.out.keep h1 (Or.inr ⟨by omega, by omega⟩)) h2 (Or.inr ⟨by omega, by omega⟩)).mono ?_
      rintro e w3 ⟨rfl, g1, g2, vv, g3, g4, g5⟩
      exact ⟨rfl, g1, ⟨h1.trans (g2.mono fun x hx => ⟨by rcases hx with h | h; exact Or.inl h; exact Or.inr ⟨h.1, by omega⟩, fun e => by subst e; rcases hx with h | h; have := HLT.out _ h; omega; omega⟩), vv, g3⟩, vv, g3, g4, g5⟩)
  refine hw.mono ?_
  rintro e w4 ⟨rfl, hmem, ⟨hJ1, _⟩, ⟨r, _, vv, hv1, hv2, _, hvm, hvc⟩, _⟩
  obtain ⟨A, cp, rfl⟩ := seen_own_slice hv2
  have cl := hv1.cell 0
  simp only [List.getElem?_cons_zero] at cl
  have HO : Hid (SeenOwn w4 K (.slice A l.length cp) l) := ⟨hv2.1, fun x hx hKx => hv2.2 x hx (Or.inl hKx)⟩
  have HK4 := hid ((HKK.out.mono HLT.out : Keeps K w w1).trans (hJ1.mono fun x hx => Or.inl hx))
  have HMem := hid hmem
  generalize hll : l.length = len at cl hvm hvc
  have HVM := hid (And.intro hvm hvc)
  clear hw hJ1 hv1 hv2 hmem hvm hvc
  have HLL := hid hll
  clear hll
  go_wp2_with fail
  refine hR'.out _ _ ⟨_, rfl, HMem.out, ?_, HVM.out.1, HVM.out.2, HK4.out⟩
  have := HO.out
  rw [HLL.out] at this
  exact this
end Go.Proofs.Ytjnaibmnpajfdaa
