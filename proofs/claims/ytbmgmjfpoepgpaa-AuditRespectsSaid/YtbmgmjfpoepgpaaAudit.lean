/- Layer 24's statements on orders: AuditOrders, AuditRespects, walked; a slice of operations that came in. -/
import Derived.Test.YtbmgmjfpoepgpaaLawS
import Derived.Test.YtbmgmjfpoepgpaaOpenB
namespace Go.Proofs.Ytbmgmjfpoepgpaa
open Go.RowKit Go.ChangeShapes Go.WideShapes Go.Deep

set_option maxRecDepth 100000 in
set_option maxHeartbeats 2000000 in
theorem auditOrders_call (A : Option Addr) (c : Nat) (l : List DoneM) (w : World) (h : HistAt w (· < w.heap.size) (.slice A l.length c) l) :
    Calls Try.prog 3 #[.slice A l.length c] w fun e w' => e = .returned (.bool true) ∧ Keeps (· < w.heap.size) w w' := by
  obtain ⟨A', c', e, h1, h2⟩ := h.form
  injection e with e1 e0 e2
  clear e0
  subst e1 e2
  unfold maxLen at h2
  have HH := hid h
  clear h
  refine calls_hide fun R' hR' => ?_
  go_enter Try.func3, Try.ntmps3
  by_cases hl : (l.length : Int) > 200
  · have d0 : decide ((l.length : Int) > 200) = true := decide_eq_true hl
    go_wp2_with fail
    refine (fixed24 w).mono ?_
    rintro e w1 ⟨rfl, hk1⟩
    have HK := hid hk1
    clear hk1
    go_wp2_with fail
    exact hR'.out _ _ ⟨rfl, HK.out⟩
  · have d0 : decide ((l.length : Int) > 200) = false := decide_eq_false hl
    have hl2 : l.length ≤ 1000 := by omega
    go_wp2_with fail
    refine (fixed24 w).mono ?_
    rintro e w1 ⟨rfl, hk1⟩
    have HK1 := hid hk1
    clear hk1
    go_wp2_with fail
    refine (order_call (w := w1) (K := (· < w.heap.size)) (l := l) (HH.out.keep HK1.out (fun b hb => hb)) (fun b hb => by have := HK1.out.size; omega) hl2).mono ?_
    rintro e w2 ⟨g1, rfl, hs1, hk2⟩
    have HK2 := hid (HK1.out.trans (hk2.mono fun b hb => by have := HK1.out.size; omega))
    have HS1 := hid hs1
    clear hs1 hk2 HK1
    go_wp2_with fail
    refine (rorder_call (w := w2) (K := (· < w.heap.size)) (l := l) (HH.out.keep HK2.out (fun b hb => hb)) (fun b hb => by have := HK2.out.size; omega) hl2).mono ?_
    rintro e w3 ⟨g2, rfl, hs2, hk3⟩
    have HK3 := hid (HK2.out.trans (hk3.mono fun b hb => by have := HK2.out.size; omega))
    have HS1' := hid ((HS1.out.keep hk3 (fun b hb => hb)).mono (L := (· < w3.heap.size)) fun b hb => by have := hk3.size; omega)
    have HS2 := hid hs2
    clear hs2 hk3 HK2 HS1
    go_wp2_with fail
    have hlen : (intsOf (srt (keyOf l) 0 l.length)).length = l.length := by rw [intsOf, List.length_map, srt_length]; omega
    refine (same_ints (w := w3) (K := (· < w3.heap.size)) (xs := intsOf (srt (keyOf l) 0 l.length)) (ys := intsOf (srt (keyOf l) 0 l.length)) (by have := HS1'.out; rw [map_iv] at this; rw [hlen]; exact this) (by have := HS2.out; rw [map_iv] at this; rw [hlen]; exact this)).mono ?_
    rintro e w4 ⟨rfl, n, rfl⟩
    rw [decide_eq_true rfl]
    clear hlen HS1' HS2
    go_wp2_with fail
    exact hR'.out _ _ ⟨rfl, HK3.out.drewN n⟩

set_option maxRecDepth 100000 in
set_option maxHeartbeats 2000000 in
theorem auditRespects_call (A O : Option Addr) (c oc : Nat) (l : List DoneM) (ord : List Int) (w : World) (h : HistAt w (· < w.heap.size) (.slice A l.length c) l)
    (ho : SlAt w (· < w.heap.size) 1 (.slice O ord.length oc) ord.length (ord.map (Value.int .i64))) :
    Calls Try.prog 4 #[.slice A l.length c, .slice O ord.length oc] w fun e w' => e = .returned (.bool true) ∧ Keeps (· < w.heap.size) w w' := by
  obtain ⟨A', c', e, h1, h2⟩ := h.form
  injection e with e1 e0 e2
  clear e0
  subst e1 e2
  obtain ⟨A', c', e, h3, h4⟩ := ho.form
  injection e with e1 e0 e2
  clear e0
  subst e1 e2
  unfold maxLen at h2 h4
  have HH := hid h
  have HO := hid ho
  clear h ho
  refine calls_hide fun R' hR' => ?_
  go_enter Try.func4, Try.ntmps4
  by_cases hl : (l.length : Int) > 200
  · have d0 : decide ((l.length : Int) > 200) = true := decide_eq_true hl
    go_wp2_with fail
    refine (fixed24 w).mono ?_
    rintro e w1 ⟨rfl, hk1⟩
    have HK := hid hk1
    clear hk1
    go_wp2_with fail
    exact hR'.out _ _ ⟨rfl, HK.out⟩
  · have d0 : decide ((l.length : Int) > 200) = false := decide_eq_false hl
    have hl2 : l.length ≤ 1000 := by omega
    by_cases ho2 : (ord.length : Int) > 300
    · have d1 : decide ((ord.length : Int) > 300) = true := decide_eq_true ho2
      go_wp2_with fail
      refine (fixed24 w).mono ?_
      rintro e w1 ⟨rfl, hk1⟩
      have HK := hid hk1
      clear hk1
      go_wp2_with fail
      exact hR'.out _ _ ⟨rfl, HK.out⟩
    · have d1 : decide ((ord.length : Int) > 300) = false := decide_eq_false ho2
      have hol : ord.length ≤ 1000 := by omega
      go_wp2_with fail
      refine (fixed24 w).mono ?_
      rintro e w1 ⟨rfl, hk1⟩
      have HK1 := hid hk1
      clear hk1
      go_wp2_with fail
      have hA := Classical.propDecidable (Aud l ord)
      have hB : Decidable (Ref l ord) := decidable_of_iff (Aud l ord) (aud_ref l ord)
      obtain ⟨B, hBd⟩ : ∃ B : Bool, B = decide (Aud l ord) := ⟨_, rfl⟩
      have hBd2 : B = decide (Ref l ord) := by rw [hBd]; exact decide_eq_decide.2 (aud_ref l ord)
      refine (resp_call (w := w1) (K := (· < w.heap.size)) (KO := (· < w.heap.size)) (l := l) (ord := ord) (HH.out.keep HK1.out (fun b hb => hb)) (fun b hb => by have := HK1.out.size; omega) (HO.out.keep HK1.out (fun b hb => hb)) (fun b hb => by have := HK1.out.size; omega) hl2 hol).mono ?_
      rintro e w2 ⟨rfl, hk2⟩
      have HK2 := hid (HK1.out.trans (hk2.mono fun b hb => by have := HK1.out.size; omega))
      rw [← hBd]
      have HBD := hid hBd2
      clear hk2 HK1 hBd hBd2
      go_wp2_with fail
      refine (rresp_call (w := w2) (K := (· < w.heap.size)) (KO := (· < w.heap.size)) (l := l) (ord := ord) (HH.out.keep HK2.out (fun b hb => hb)) (fun b hb => by have := HK2.out.size; omega) (HO.out.keep HK2.out (fun b hb => hb)) (fun b hb => by have := HK2.out.size; omega) hl2).mono ?_
      rintro e w3 ⟨rfl, hk3⟩
      have HK3 := hid (HK2.out.trans (hk3.mono fun b hb => by have := HK2.out.size; omega))
      have h1 := HBD.out
      rw [← h1]
      have hbb : (B == B) = true := by simp
      clear hk3 HK2 h1 HBD hA hB
      go_wp2_with fail
      exact hR'.out _ _ ⟨by simp, HK3.out⟩

set_option maxRecDepth 100000
theorem Try.cellsDone : Try.prog.cellsOf 66 = 13 := by kernel_rfl
theorem Try.cellsInt : Try.prog.cellsOf 3 = 1 := by kernel_rfl
section
variable {H : Type} {enc : TypeId × Value → H} {w : World}
theorem read_done (n : Nat) (cs : List Value) (x : DataW H × List MemPlace) (hl : cs.length = 13)
    (h : DataW.trod enc Try.prog w 0 (fun _ => true) true n 66 cs = some x) : ∃ a : DoneM, a.cells = cs ∧ True := by
  obtain ⟨xs, n', _, _, _, hlen, hf⟩ := DataW.trod_struct Try.underlying66 h
  match cs, hl with
  | [b0, b1, b2, b3, b4, b5, b6, b7, b8, b9, b10, b11, b12], _ =>
    have f3 : DataW.trod enc Try.prog w 0 (fun _ => true) true n' 3 (([b0, b1, b2, b3, b4, b5, b6, b7, b8, b9, b10, b11, b12].drop 8).take (Try.prog.cellsOf 3)) = xs[3]? := hf 3 _ rfl
    have f4 : DataW.trod enc Try.prog w 0 (fun _ => true) true n' 3 (([b0, b1, b2, b3, b4, b5, b6, b7, b8, b9, b10, b11, b12].drop 9).take (Try.prog.cellsOf 3)) = xs[4]? := hf 4 _ rfl
    have f5 : DataW.trod enc Try.prog w 0 (fun _ => true) true n' 3 (([b0, b1, b2, b3, b4, b5, b6, b7, b8, b9, b10, b11, b12].drop 10).take (Try.prog.cellsOf 3)) = xs[5]? := hf 5 _ rfl
    rw [Try.cellsInt] at f3 f4 f5
    have key : ∀ i, i < xs.length → ∃ y, xs[i]? = some y := fun i hi => ⟨_, List.getElem?_eq_getElem hi⟩
    have hxl : xs.length = 8 := hlen
    obtain ⟨y3, g3⟩ := key 3 (by omega)
    obtain ⟨y4, g4⟩ := key 4 (by omega)
    obtain ⟨y5, g5⟩ := key 5 (by omega)
    obtain ⟨a3, e3, _⟩ := DataW.trod_int Try.underlying3 (f3.trans g3)
    obtain ⟨a4, e4, _⟩ := DataW.trod_int Try.underlying3 (f4.trans g4)
    obtain ⟨a5, e5, _⟩ := DataW.trod_int Try.underlying3 (f5.trans g5)
    have k3 : b8 = Value.int .i64 a3 := (List.cons.inj (show [b8] = [Value.int .i64 a3] from e3)).1
    have k4 : b9 = Value.int .i64 a4 := (List.cons.inj (show [b9] = [Value.int .i64 a4] from e4)).1
    have k5 : b10 = Value.int .i64 a5 := (List.cons.inj (show [b10] = [Value.int .i64 a5] from e5)).1
    clear e3 e4 e5 f3 f4 f5 hf
    subst k3 k4 k5
    exact ⟨⟨[b0, b1, b2, b3, b4, b5, b6, b7], a3, a4, a5, [b11, b12], rfl, rfl⟩, rfl, trivial⟩
theorem open_doneS {v : Value} {d : DataW H} {p : List MemPlace} {r : Reach} {b0 : Nat} (hv : Value.okWide Try.prog w r b0 22 v)
    (h : DataW.Trod enc Try.prog w 0 (fun _ => true) true 22 v d p) :
    ∃ (A : Option Addr) (cap : Nat) (l : List DoneM), v = .slice A l.length cap ∧ (∀ a ∈ l, True) ∧ SlAt w (· < w.heap.size) 13 v l.length (l.flatMap DoneM.cells) :=
  open_sl DoneM.cells 13 (by decide) DoneM.len (fun _ => True) Try.underlying22 Try.cellsDone hv h read_done
theorem open_intsS {v : Value} {d : DataW H} {p : List MemPlace} {r : Reach} {b0 : Nat} (hv : Value.okWide Try.prog w r b0 25 v) (h : DataW.Trod enc Try.prog w 0 (fun _ => true) true 25 v d p) :
    ∃ (A : Option Addr) (cap : Nat) (l : List Int), v = .slice A l.length cap ∧ (∀ a ∈ l, (Lit.int .i64 a).wf = true) ∧ SlAt w (· < w.heap.size) 1 v l.length (l.map (Value.int .i64)) :=
  open_intS .i64 Try.underlying25 Try.underlying3 Try.cellsInt hv h
end
end Go.Proofs.Ytbmgmjfpoepgpaa
