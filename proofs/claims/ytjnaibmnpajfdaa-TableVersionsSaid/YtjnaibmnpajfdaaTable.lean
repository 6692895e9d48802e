/- Layer 11: contracts of package table; its programs as trees. -/
import Derived.Test.YtjnaibmnpajfdaaRun
import Derived.Test.YtjnaibmnpajfdaaPlainC
import Derived.Handy
namespace Go.Proofs.Ytjnaibmnpajfdaa
open Go.RowKit

def Small (x : Int) : Prop := -1099511627776 ≤ x ∧ x ≤ 1099511627776

def layT (b d id ln born : Int) : Tree Unit := .store (b + 4 * d + 1) id (.store (b + 4 * d + 2) ln (.store (b + 4 * d + 0) born (.ret ())))
def killT (b d v : Int) : Tree Unit := .store (b + 4 * d + 3) v (.ret ())
/-- from row d on, as many rows as the first number says -/
def findT (b id : Int) : Nat → Nat → Tree Int
  | 0, _ => .ret (-1)
  | n + 1, d => .load (b + 4 * d + 1) fun x => .off fun o => if o = true then .ret (-1) else if x = id then .ret d else findT b id n (d + 1)

set_option maxHeartbeats 400000 in
theorem table_lay {w : World} {K : Nat → Prop} {r m c : Nat} {s : St} (h : RM w K r m c s) (b d id ln born : Int) (hb : Small b) (hd : Small d) (hi : U32 id) (hl : U32 ln) (hn : U32 born) :
    Calls Try.prog 32 #[.pointer (some ⟨r, 0, none⟩), .int .i64 b, .int .i64 d, .int .u32 id, .int .u32 ln, .int .u32 born] w fun e w' =>
      e = .returned (.tuple #[]) ∧ RM w' K r m c ((layT b d id ln born).exec s).2 ∧ Keeps K w w' := by
  obtain ⟨b0, b1⟩ := hb
  obtain ⟨d0, d1⟩ := hd
  have H := hid h
  clear h
  refine calls_hide fun R' hR' => ?_
  go_enter Try.func32, Try.ntmps32
  go_wp2_with fail
  refine (step_store H.out _ id hi).mono ?_
  rintro e w1 ⟨rfl, hr1, hk1⟩
  have H1 := hid hr1
  have HK1 := hid hk1
  clear hr1 hk1
  go_wp2_with fail
  refine (step_store H1.out _ ln hl).mono ?_
  rintro e w2 ⟨rfl, hr2, hk2⟩
  have H2 := hid hr2
  have HK2 := hid (HK1.out.trans hk2)
  clear hr2 hk2
  go_wp2_with fail
  refine (step_store H2.out _ born hn).mono ?_
  rintro e w3 ⟨rfl, hr3, hk3⟩
  have H3 := hid hr3
  have HK3 := hid (HK2.out.trans hk3)
  clear hr3 hk3
  go_wp2_with fail
  go_end0
  refine hR'.out _ _ ⟨rfl, ?_, HK3.out⟩
  first | exact H3.out | (show RM w3 K r m c (((s.store (b + 4 * d + 1) id).store (b + 4 * d + 2) ln).store (b + 4 * d + 0) born); rw [Int.add_zero]; exact H3.out)

set_option maxHeartbeats 400000 in
theorem table_kill {w : World} {K : Nat → Prop} {r m c : Nat} {s : St} (h : RM w K r m c s) (b d v : Int) (hb : Small b) (hd : Small d) (hv : U32 v) :
    Calls Try.prog 59 #[.pointer (some ⟨r, 0, none⟩), .int .i64 b, .int .i64 d, .int .u32 v] w fun e w' =>
      e = .returned (.tuple #[]) ∧ RM w' K r m c ((killT b d v).exec s).2 ∧ Keeps K w w' := by
  obtain ⟨b0, b1⟩ := hb
  obtain ⟨d0, d1⟩ := hd
  have H := hid h
  clear h
  refine calls_hide fun R' hR' => ?_
  go_enter Try.func59, Try.ntmps59
  go_wp2_with fail
  refine (step_store H.out _ v hv).mono ?_
  rintro e w1 ⟨rfl, hr1, hk1⟩
  have H1 := hid hr1
  have HK1 := hid hk1
  clear hr1 hk1
  go_wp2_with fail
  go_end0
  exact hR'.out _ _ ⟨rfl, H1.out, HK1.out⟩

theorem findT_step (b id : Int) (n d : Nat) (s : St) : (findT b id (n + 1) d).exec s =
    (if (s.load (b + 4 * d + 1)).2.isOff = true then Tree.ret (-1) else if (s.load (b + 4 * d + 1)).1 = id then .ret (d : Int) else findT b id n (d + 1)).exec (s.load (b + 4 * d + 1)).2 := rfl

set_option maxHeartbeats 1000000 in
theorem table_find {w : World} {K : Nat → Prop} {r m c : Nat} {s : St} (h : RM w K r m c s) (b id : Int) (n : Nat) (hb : Small b) (hn : n ≤ 1099511627776) (hi : U32 id) :
    Calls Try.prog 35 #[.pointer (some ⟨r, 0, none⟩), .int .i64 b, .int .i64 n, .int .u32 id] w fun e w' =>
      e = .returned (.int .i64 ((findT b id n 0).exec s).1) ∧ RM w' K r m c ((findT b id n 0).exec s).2 ∧ Keeps K w w' := by
  obtain ⟨b0, b1⟩ := hb
  obtain ⟨i0, i1⟩ := hi
  have H := hid h
  clear h
  generalize hres : (findT b id n 0).exec s = res
  have HRes := hid hres
  clear hres
  refine calls_hide fun R' hR' => ?_
  go_enter Try.func35, Try.ntmps35
  go_wp2_with fail
  go_loopw [12] (fun i wr => ∃ (k : Nat) (s' : St), i = .int .i64 k ∧ k ≤ n ∧ RM wr K r m c s' ∧ Keeps K w wr ∧ (findT b id (n - k) k).exec s' = res) (fun i _ => n - (intOf i).toNat)
  case atStart => exact ⟨0, s, rfl, Nat.zero_le _, H.out, Keeps.refl _ _, HRes.out⟩
  case round =>
    obtain ⟨k, s', rfl, hk, hR, hK, hex⟩ := hrel
    have HR := hid hR
    have HK := hid hK
    clear hR hK
    by_cases hlt : k < n
    · have e : n - k = (n - (k + 1)) + 1 := by omega
      rw [e, findT_step] at hex
      have HEX := hid hex
      clear hex e
      go_wp2_with fail
      refine (step_load HR.out _).mono ?_
      rintro e w1 ⟨rfl, hr1, hk1⟩
      have HU := hid (HR.out.load_u32 (b + 4 * (k : Int) + 1))
      have HE2 := HEX.out
      generalize s'.load (b + 4 * (k : Int) + 1) = ls at *
      obtain ⟨x, s1⟩ := ls
      simp only at hr1 HU HE2
      have HR1 := hid hr1
      have HK1 := hid (HK.out.trans hk1)
      have HX := hid HE2
      clear hr1 hk1 HE2
      go_wp2_with fail
      refine (step_off HR1.out).mono ?_
      rintro e w2 ⟨rfl, rfl⟩
      have hx := HX.out
      cases ho : s1.isOff
      · rw [ho, if_neg (by decide)] at hx
        by_cases hxi : x = id
        · rw [if_pos hxi] at hx
          have HY := hid hx
          clear hx
          subst hxi
          go_wp2_with fail
          exact hR'.out _ _ ⟨by rw [← HY.out]; rfl, by rw [← HY.out]; exact HR1.out, HK1.out⟩
        · rw [if_neg hxi] at hx
          have HY := hid hx
          have hb : (x == id) = false := by simpa using hxi
          clear hx hxi
          go_wp2_with fail
          go_roundw
          case rel => exact ⟨k + 1, s1, by go_num, by omega, HR1.out, HK1.out, HY.out⟩
          case measure => simp [intOf]; omega
      · rw [ho, if_pos rfl] at hx
        have HY := hid hx
        clear hx
        go_wp2_with fail
        exact hR'.out _ _ ⟨by rw [← HY.out]; rfl, by rw [← HY.out]; exact HR1.out, HK1.out⟩
    · have hkn : n - k = 0 := by omega
      rw [hkn] at hex
      have HY := hid hex
      clear hex hkn
      go_wp2_with fail
      exact hR'.out _ _ ⟨by rw [← HY.out]; rfl, by rw [← HY.out]; exact HR.out, HK.out⟩
end Go.Proofs.Ytjnaibmnpajfdaa
