/- Layer 17 (query), Show: a node's text in brackets or not; the texts of kids joined. -/
import Derived.Test.YtbepgbkbpkaodaaDoorShowB
namespace Go.Proofs.YtbepgbkbpkaodaaDoor
open Go.RowKit

def ShowP (n : Nd) (d m : Nat) (w : World) (e : Ending) (w' : World) : Prop := ∃ s : ByteArray, e = .returned (.tuple #[.string s, .bool (okN n d)]) ∧ (okN n d = true → s.data.toList = txtN n) ∧ (okN n d = false → s.data.toList = gbN n d) ∧ s.size + 5 ≤ 700 * m ∧ Keeps (· < w.heap.size) w w'
def ShowC (n : Nd) : Prop := ∀ (w : World) (K : Nat → Prop) (k f : Int) (A1 A2 : Option Addr) (n1 c1 n2 c2 d m : Nat), (∀ b, K b → b < w.heap.size) → FoldTab w → NodeV w K n [.int .i64 k, .int .u8 f, .slice A1 n1 c1, .slice A2 n2 c2] → NdOk n → Tot n m → m ≤ 3000 → d ≤ 10 →
    Calls Tryd.prog 35 #[.agg #[.int .i64 k, .int .u8 f, .slice A1 n1 c1, .slice A2 n2 c2], .int .i64 (d : Int)] w (ShowP n d m w)
def withT (n : Nd) (br : Bool) : List UInt8 := if br then 40 :: (txtN n ++ [41]) else txtN n
def withD (d : Nat) (br : Bool) : Nat := if br then d + 1 else d
def withG (n : Nd) (d : Nat) (br : Bool) : List UInt8 := if br then 40 :: (gbN n (d + 1) ++ [41]) else gbN n d
def WithP (n : Nd) (d m : Nat) (br : Bool) (w : World) (e : Ending) (w' : World) : Prop := ∃ s : ByteArray, e = .returned (.tuple #[.string s, .bool (okN n (withD d br))]) ∧ (okN n (withD d br) = true → s.data.toList = withT n br) ∧ (okN n (withD d br) = false → s.data.toList = withG n d br) ∧ s.size + 3 ≤ 700 * m ∧ Keeps (· < w.heap.size) w w'
set_option maxRecDepth 100000 in
set_option maxHeartbeats 1000000 in
theorem query_within (n : Nd) (hn : ShowC n) (w : World) (K : Nat → Prop) (k f : Int) (A1 A2 : Option Addr) (n1 c1 n2 c2 d m : Nat) (br : Bool) (hb : ∀ b, K b → b < w.heap.size) (hT : FoldTab w) (hv : NodeV w K n [.int .i64 k, .int .u8 f, .slice A1 n1 c1, .slice A2 n2 c2]) (ho : NdOk n) (ht : Tot n m) (hm : m ≤ 3000) (hd : d ≤ 9) :
    Calls Tryd.prog 45 #[.agg #[.int .i64 k, .int .u8 f, .slice A1 n1 c1, .slice A2 n2 c2], .int .i64 (d : Int), .bool br] w (WithP n d m br w) := by
  have hk : Keeps (· < w.heap.size) w (w.alloc (.cells #[.int .i64 k, .int .u8 f, .slice A1 n1 c1, .slice A2 n2 c2] 26)) := (Keeps.refl _ _).alloc (fun b hb => hb) _
  have hS := hn (w.alloc (.cells #[.int .i64 k, .int .u8 f, .slice A1 n1 c1, .slice A2 n2 c2] 26)) K k f A1 A2 n1 c1 n2 c2 (withD d br) m (fun b h => Nat.lt_of_lt_of_le (hb b h) hk.size) (hT.keep hk) (hv.keepK hk hb) ho ht hm (by unfold withD; split <;> omega)
  clear hv hT hn ho ht hb
  have hR : ∀ R' : Ending → World → Prop, (∀ e w', WithP n d m br w e w' → R' e w') → ∀ (s : ByteArray) (w' : World), (okN n (withD d br) = true → s.data.toList = withT n br) → (okN n (withD d br) = false → s.data.toList = withG n d br) → s.size + 3 ≤ 700 * m → Keeps (· < w.heap.size) w w' → R' (.returned (.tuple #[.string s, .bool (okN n (withD d br))])) w' := fun R' h s w' h1 h4 h2 h3 => h _ _ ⟨s, rfl, h1, h4, h2, h3⟩
  have htx : withT n br = if br then 40 :: (txtN n ++ [41]) else txtN n := rfl
  have hgx : withG n d br = if br then 40 :: (gbN n (d + 1) ++ [41]) else gbN n d := rfl
  cases br with
  | false =>
    have hS : Calls Tryd.prog 35 #[.agg #[.int .i64 k, .int .u8 f, .slice A1 n1 c1, .slice A2 n2 c2], .int .i64 (d : Int)] (w.alloc (.cells #[.int .i64 k, .int .u8 f, .slice A1 n1 c1, .slice A2 n2 c2] 26)) (ShowP n (withD d false) m (w.alloc (.cells #[.int .i64 k, .int .u8 f, .slice A1 n1 c1, .slice A2 n2 c2] 26))) := hS
    have HS := hid hS
    have HR := hid hR
    have Htx := hid htx
    have Hk := hid hk
    have Hgx := hid hgx
    clear hS hR htx hk hgx
    refine calls_hide fun R' hR' => ?_
    go_enter Tryd.func45, Tryd.ntmps45
    go_wp2_with fail
    refine HS.out.mono ?_
    rintro e w2 ⟨s, rfl, h1, h4, h2, h3⟩
    generalize okN n (withD d false) = ok at *
    have h3k := Hk.out.trans (h3.mono fun b hb => Nat.lt_of_lt_of_le hb Hk.out.size)
    clear h3
    have H1 := hid h1
    have H2 := hid h2
    have H3k := hid h3k
    have H4 := hid h4
    clear h1 h2 h3k h4
    go_wp2_with fail
    exact HR.out R' hR'.out s _ (fun h => by rw [Htx.out]; exact H1.out h) (fun h => by rw [Hgx.out]; exact H4.out h) (by have := H2.out; omega) H3k.out
  | true =>
    have hS : Calls Tryd.prog 35 #[.agg #[.int .i64 k, .int .u8 f, .slice A1 n1 c1, .slice A2 n2 c2], .int .i64 ((d : Int) + 1)] (w.alloc (.cells #[.int .i64 k, .int .u8 f, .slice A1 n1 c1, .slice A2 n2 c2] 26)) (ShowP n (withD d true) m (w.alloc (.cells #[.int .i64 k, .int .u8 f, .slice A1 n1 c1, .slice A2 n2 c2] 26))) := hS
    have HS := hid hS
    have HR := hid hR
    have Htx := hid htx
    have Hk := hid hk
    have Hgx := hid hgx
    clear hS hR htx hk hgx
    refine calls_hide fun R' hR' => ?_
    go_enter Tryd.func45, Tryd.ntmps45
    go_wp2_with fail
    refine HS.out.mono ?_
    rintro e w2 ⟨s, rfl, h1, h4, h2, h3⟩
    generalize okN n (withD d true) = ok at *
    have h3k := Hk.out.trans (h3.mono fun b hb => Nat.lt_of_lt_of_le hb Hk.out.size)
    have hsb : s.size ≤ 3000000 := by omega
    clear h3
    have H1 := hid h1
    have H2 := hid h2
    have H3k := hid h3k
    have H4 := hid h4
    clear h1 h2 h3k h4
    go_wp2_with fail
    refine HR.out R' hR'.out ((⟨#[40]⟩ ++ s) ++ ⟨#[41]⟩) _ (fun h => ?_) (fun h => ?_) ?_ H3k.out
    · rw [Htx.out, ByteArray.data_append, ByteArray.data_append, Array.toList_append, Array.toList_append, H1.out h]
      rfl
    · rw [Hgx.out, ByteArray.data_append, ByteArray.data_append, Array.toList_append, Array.toList_append, H4.out h]
      rfl
    · rw [ByteArray.size_append, ByteArray.size_append]
      have := H2.out
      show 1 + s.size + 1 + 3 ≤ _
      omega

theorem bytesL_snoc (acc : List ByteArray) (x : ByteArray) : bytesL (acc ++ [x]) = bytesL acc ++ [x.data.toList] := by unfold bytesL; simp
theorem lens_snoc (a : List (List UInt8)) (x : List UInt8) : Lib.lens (a ++ [x]) = Lib.lens a + x.length := by unfold Lib.lens; simp
theorem sumL_take_le {α : Type} (f : α → Nat) : ∀ (l : List α) (i : Nat), sumL f (l.take i) ≤ sumL f l
  | [], i => by simp [sumL]
  | a :: l, 0 => Nat.zero_le _
  | a :: l, i + 1 => by
    have := sumL_take_le f l i
    rw [List.take_succ_cons, sumL, sumL]
    omega
def brkB (kd : Int) (a : Bool) (kk : Int) : Bool := kk == 3 || (kk == 2 && a)
theorem brkB_eq {k : Int} {a : Bool} (ha : a = !(k == 3)) (kk : Int) : brkB k a kk = brk k kk := by unfold brkB brk; rw [ha]
set_option maxRecDepth 100000 in
set_option maxHeartbeats 4000000 in
theorem query_joinT (pk : Int) (a : Bool) (ha : a = !(pk == 3)) (kids : List Nd) (hn : ∀ n ∈ kids, ShowC n) (w : World) (K : Nat → Prop) (A : Option Addr) (c d : Nat) (sep : ByteArray) (css : List (List Value)) (ns : List Nat)
    (hb : ∀ b, K b → b < w.heap.size) (hT : FoldTab w) (hs : SlAt w K 4 (.slice A kids.length c) kids.length css.flatten) (hl : css.length = kids.length)
    (hk : ∀ (i : Nat) (n : Nd) (cs : List Value), kids[i]? = some n → css[i]? = some cs → NodeV w K n cs) (ho : ∀ n ∈ kids, NdOk n) (hnl : ns.length = kids.length)
    (ht : ∀ (i : Nat) (n : Nd) (m : Nat), kids[i]? = some n → ns[i]? = some m → Tot n m) (hm : sumL id ns ≤ 3000) (hd : d ≤ 9) (hsep : sep.size ≤ 3) (hkl : kids.length ≤ 3000) :
    Calls Tryd.prog 46 #[.slice A kids.length c, .string sep, .int .i64 (d : Int), .bool a] w fun e w' => ∃ s : ByteArray, e = .returned (.tuple #[.string s, .bool (okL kids d pk)]) ∧ (okL kids d pk = true → s.data.toList = Lib.join (txtL kids pk) sep.data.toList) ∧ (okL kids d pk = false → s.data.toList = []) ∧ s.size ≤ 700 * sumL id ns ∧ Keeps (· < w.heap.size) w w' := by
  have hcp := hs.capOf
  unfold maxLen at hcp
  obtain ⟨s1, s2⟩ := hcp
  have Hn := hid hn
  have HT := hid hT
  have Hs := hid hs
  have Hk := hid hk
  have Ho := hid ho
  have Ht := hid ht
  have Hb := hid hb
  have Ha := hid ha
  have Hm := hid hm
  clear hn hT hs hk ho ht hb ha hm
  refine calls_hide fun R' hR' => ?_
  go_enter Tryd.func46, Tryd.ntmps46
  go_wp2_with fail
  go_loopw [10, 17] (fun ov iv wx => ∃ (i : Nat) (acc : List ByteArray) (A' : Option Addr) (cp : Nat), ov = .slice A' acc.length cp ∧ iv = .int .i64 (i : Int) ∧ i ≤ kids.length ∧ acc.length ≤ i ∧ Hid (acc.length = i) ∧ Hid (okL kids d pk = okL (kids.drop i) d pk) ∧ Hid (bytesL acc ++ txtL (kids.drop i) pk = txtL kids pk) ∧ Hid (Lib.lens (bytesL acc) + 3 * i ≤ 700 * sumL id (ns.take i)) ∧ Hid (NewS w wx (.slice A' acc.length cp) acc)) (fun _ iv _ => kids.length - (intOf iv).toNat)
  case atStart => exact ⟨0, [], none, 0, rfl, rfl, Nat.zero_le _, Nat.zero_le _, hid rfl, hid rfl, hid rfl, hid (Nat.zero_le _), hid ⟨⟨rfl, Or.inl ⟨rfl, rfl⟩⟩, Keeps.refl _ _⟩⟩
  case round =>
    obtain ⟨i, acc, A', cp, rfl, rfl, hi, hai, HQ, HO, HE, HL, HN⟩ := hrel
    have hkr := HN.out.2
    have hwr := hkr.size
    by_cases hlt : i < kids.length
    · have hltI : (i : Int) < (kids.length : Int) := by omega
      obtain ⟨n, hn1⟩ : ∃ n, kids[i]? = some n := ⟨_, List.getElem?_eq_getElem hlt⟩
      obtain ⟨cs, hcs⟩ : ∃ cs, css[i]? = some cs := ⟨_, List.getElem?_eq_getElem (by omega)⟩
      obtain ⟨m, hm1⟩ : ∃ m, ns[i]? = some m := ⟨_, List.getElem?_eq_getElem (by omega)⟩
      have hmem := List.mem_of_getElem? hn1
      have hN1 := Hk.out i n cs hn1 hcs
      obtain ⟨kk, f, B1, n1, c1, B2, n2, c2, rfl⟩ := hN1.form
      have hkn : kindN n = kk := by cases hN1; rfl
      have hS1 := Hs.out
      rw [← hl, ← List.flatMap_id] at hS1
      obtain ⟨b1, o1, rfl, hkb1, c1'⟩ := SlAt.rec (f := id) (kids_len4 hl Hk.out) hS1 i _ hcs
      have hh1 := Hb.out _ hkb1
      have tr : ∀ b o u, b < w.heap.size → w.cell? ⟨b, o, none⟩ = some u → wr.cell? ⟨b, o, none⟩ = some u := fun b o u hb hc => (World.cell?_of_block (a := ⟨b, o, none⟩) (hkr.block b hb)).trans hc
      have a0 := tr _ _ _ hh1 (c1' 0 _ rfl)
      have a1 := tr _ _ _ hh1 (c1' 1 _ rfl)
      have a2 := tr _ _ _ hh1 (c1' 2 _ rfl)
      have a3 := tr _ _ _ hh1 (c1' 3 _ rfl)
      simp only [Nat.add_zero] at a0
      have hdr : kids.drop i = n :: kids.drop (i + 1) := by
        obtain ⟨h9, h8⟩ := List.getElem?_eq_some_iff.1 hn1
        rw [List.drop_eq_getElem_cons h9, h8]
      have hsn : sumL id (ns.take (i + 1)) = sumL id (ns.take i) + m := sumL_take id ns i m hm1
      have hsle : sumL id (ns.take i) + m ≤ sumL id ns := by rw [← hsn]; exact sumL_take_le id ns (i + 1)
      have hm3 : m ≤ 3000 := by have := Hm.out; omega
      have hbr : brk pk kk = brkB pk a kk := (brkB_eq Ha.out kk).symm
      have hk3 : Keeps (· < wr.heap.size) wr (wr.alloc (.cells #[.int .i64 kk, .int .u8 f, .slice B1 n1 c1, .slice B2 n2 c2] 26)) := (Keeps.refl _ _).alloc (fun b hb => hb) _
      have hkw3 := hkr.trans (hk3.mono fun b hb => by omega)
      have hcall := query_within n (Hn.out n hmem) (wr.alloc (.cells #[.int .i64 kk, .int .u8 f, .slice B1 n1 c1, .slice B2 n2 c2] 26)) K kk f B1 B2 n1 c1 n2 c2 d m (brk pk kk) (fun b hb => Nat.lt_of_lt_of_le (Hb.out b hb) hkw3.size) (HT.out.keep hkw3) (hN1.keepK hkw3 Hb.out) (Ho.out n hmem) (Ht.out i n m hn1 hm1) hm3 hd
      have ho2 : okL kids d pk = (okN n (withD d (brk pk kk)) && okL (kids.drop (i + 1)) d pk) := by rw [HO.out, hdr, okL_cons, hkn]; rfl
      have he2 : bytesL acc ++ (withT n (brk pk kk) :: txtL (kids.drop (i + 1)) pk) = txtL kids pk := by rw [← HE.out, hdr, txtL_cons, hkn]; rfl
      rw [hbr] at hcall ho2 he2
      clear hN1 hS1 tr c1' hcs hn1 hm1 hdr hbr HO HE hkn hk3
      unfold brkB at hcall ho2 he2
      have hkq : ∀ W', Keeps (· < (wr.alloc (.cells #[.int .i64 kk, .int .u8 f, .slice B1 n1 c1, .slice B2 n2 c2] 26)).heap.size) (wr.alloc (.cells #[.int .i64 kk, .int .u8 f, .slice B1 n1 c1, .slice B2 n2 c2] 26)) W' → NewS w W' (.slice A' acc.length cp) acc := fun W' h => (HN.out.calls ((Keeps.refl _ _).alloc (fun b hb => hb) _)).calls h
      clear HN
      by_cases h3 : kk = 3
      · have f3 : (kk == 3) = true := by simp [h3]
        rw [f3, Bool.true_or] at hcall ho2 he2
        have Hcall := hid hcall
        have Ho2 := hid ho2
        have He2 := hid he2
        have Hkq := hid hkq
        have Hkw3 := hid hkw3
        have Hkr := hid hkr
        have Hsn := hid hsn
        clear hcall ho2 he2 hkq hkw3 hkr hsn
        clear h3
        go_wp2_with fail
        refine Hcall.out.mono ?_
        rintro e w3 ⟨s, rfl, g1, _, g2, g3⟩
        have hN3 := Hkq.out _ g3
        have hkw4 := Hkw3.out.trans (g3.mono fun b hb => Nat.lt_of_lt_of_le hb Hkw3.out.size)
        have ho3 := Ho2.out
        have he3 := He2.out
        have hw3 := hkw4.size
        clear a0 a1 a2 a3 g3 Hcall Ho2 He2 Hkq Hkw3 Hkr
        generalize okN n (withD d true) = ok at *
        cases ok with
        | false =>
          have hno : okL kids d pk = false := ho3
          clear ho3 he3 hN3 g1
          have Hno := hid hno
          have Hkw4 := hid hkw4
          clear hno hkw4
          go_wp2_with fail
          exact hR'.out _ _ ⟨⟨#[]⟩, by rw [Hno.out]; rfl, fun h => (by rw [Hno.out] at h; cases h), fun _ => rfl, Nat.zero_le _, Hkw4.out⟩
        | true =>
          have ho4 : okL kids d pk = okL (kids.drop (i + 1)) d pk := ho3
          have g1 := g1 rfl
          have he4 : bytesL (acc ++ [s]) ++ txtL (kids.drop (i + 1)) pk = txtL kids pk := by
            rw [bytesL_snoc, g1, List.append_assoc]
            exact he3
          have hl4 : Lib.lens (bytesL (acc ++ [s])) + 3 * (i + 1) ≤ 700 * sumL id (ns.take (i + 1)) := by
            rw [bytesL_snoc, lens_snoc, Hsn.out, bsize]
            have := HL.out
            omega
          have hln : acc.length + 1 = (acc ++ [s]).length := by simp
          have hq4 : (acc ++ [s]).length = i + 1 := by have := HQ.out; omega
          have hx4 : (acc ++ [s]).length ≤ i + 1 := by omega
          clear ho3 he3 g1 g2 HL
          have Ho4 := hid ho4
          have He4 := hid he4
          have Hl4 := hid hl4
          have Hkw4 := hid hkw4
          have HN3 := hid hN3
          have Hln := hid hln
          have Hq4 := hid hq4
          clear ho4 he4 hl4 hkw4 hN3 hln hq4
          obtain ⟨i0, hi, hz0, hz1, hz2⟩ := info_partsF Tryd.infoStr
          go_wp2_with (at_builtin; go_must (refine wpList_append_own_at _ rfl _ _ 84 rfl (w.heap.size) 9 i0 (.string ⟨#[]⟩) 1 16 Tryd.underlying84 hi hz0 hz1 hz2 rfl (by decide) (.slice A' acc.length cp) acc.length (acc.map Value.string) rfl (ownB_keepS HN3.out.1 ((Keeps.refl _ _).alloc (fun b hb => hb) _)) ⟨w3.heap.size, 0, none⟩ 1 1 [.string s] rfl (by simp) (own_newsS (own_lit w3 0 _ _ 1 1 [.string s] rfl rfl (by decide) (Nat.zero_le _))) ?_ ?_ ?_ ?_ ?_))
          all_goals (try (first | with_reducible exact one1 _ _ | with_reducible exact one2 _ _ _ | with_reducible exact one4 _ _ _ _ _ | with_reducible exact oneM _ _ | exact rfl | exact fun _ _ => rfl | exact ⟨rfl, rfl⟩ | exact ⟨rfl, rfl, rfl⟩ | exact ⟨rfl, rfl, rfl, rfl⟩ | (unfold maxLen; omega) | omega | (simp; omega) | (simp; done)))
          (try clear hi)
          (try clear hz0)
          (try clear hz1)
          (try clear hz2)
          all_goals (try (first | (intro u hu; simp only [List.mem_singleton] at hu; subst hu; rfl) | (simp only [maxLen]; omega) | (simp only [World.size_alloc] at *; omega)))
          intro v' w7 hown hgr _ hf
          have hN5 := HN3.out.push (x := s) hown hgr
          obtain ⟨A5, cp5, rfl⟩ := ownB_form hown
          have hln := Hln.out
          rw [hln] at hN5 ⊢
          clear Hln
          generalize acc ++ [s] = acc5 at *
          clear hown hgr hf HN3 hln
          have HN5 := hid hN5
          clear hN5
          go_wp2_with fail
          go_roundw
          case rel => exact ⟨i + 1, acc5, A5, cp5, rfl, by go_num, by omega, hx4, Hq4, Ho4, He4, Hl4, HN5⟩
          case measure => first | (simp [intOf]; done) | (simp [intOf]; omega)
      · have f3 : (kk == 3) = false := by simpa using h3
        rw [f3, Bool.false_or] at hcall ho2 he2
        by_cases h2 : kk = 2
        · have f2 : (kk == 2) = true := by simp [h2]
          rw [f2, Bool.true_and] at hcall ho2 he2
          have Hcall := hid hcall
          have Ho2 := hid ho2
          have He2 := hid he2
          have Hkq := hid hkq
          have Hkw3 := hid hkw3
          have Hkr := hid hkr
          have Hsn := hid hsn
          clear hcall ho2 he2 hkq hkw3 hkr hsn
          clear h2 h3
          go_wp2_with fail
          refine Hcall.out.mono ?_
          rintro e w3 ⟨s, rfl, g1, _, g2, g3⟩
          have hN3 := Hkq.out _ g3
          have hkw4 := Hkw3.out.trans (g3.mono fun b hb => Nat.lt_of_lt_of_le hb Hkw3.out.size)
          have ho3 := Ho2.out
          have he3 := He2.out
          have hw3 := hkw4.size
          clear a0 a1 a2 a3 g3 Hcall Ho2 He2 Hkq Hkw3 Hkr
          generalize okN n (withD d a) = ok at *
          cases ok with
          | false =>
            have hno : okL kids d pk = false := ho3
            clear ho3 he3 hN3 g1
            have Hno := hid hno
            have Hkw4 := hid hkw4
            clear hno hkw4
            go_wp2_with fail
            exact hR'.out _ _ ⟨⟨#[]⟩, by rw [Hno.out]; rfl, fun h => (by rw [Hno.out] at h; cases h), fun _ => rfl, Nat.zero_le _, Hkw4.out⟩
          | true =>
            have ho4 : okL kids d pk = okL (kids.drop (i + 1)) d pk := ho3
            have g1 := g1 rfl
            have he4 : bytesL (acc ++ [s]) ++ txtL (kids.drop (i + 1)) pk = txtL kids pk := by
              rw [bytesL_snoc, g1, List.append_assoc]
              exact he3
            have hl4 : Lib.lens (bytesL (acc ++ [s])) + 3 * (i + 1) ≤ 700 * sumL id (ns.take (i + 1)) := by
              rw [bytesL_snoc, lens_snoc, Hsn.out, bsize]
              have := HL.out
              omega
            have hln : acc.length + 1 = (acc ++ [s]).length := by simp
            have hq4 : (acc ++ [s]).length = i + 1 := by have := HQ.out; omega
            have hx4 : (acc ++ [s]).length ≤ i + 1 := by omega
            clear ho3 he3 g1 g2 HL
            have Ho4 := hid ho4
            have He4 := hid he4
            have Hl4 := hid hl4
            have Hkw4 := hid hkw4
            have HN3 := hid hN3
            have Hln := hid hln
            have Hq4 := hid hq4
            clear ho4 he4 hl4 hkw4 hN3 hln hq4
            obtain ⟨i0, hi, hz0, hz1, hz2⟩ := info_partsF Tryd.infoStr
            go_wp2_with (at_builtin; go_must (refine wpList_append_own_at _ rfl _ _ 84 rfl (w.heap.size) 9 i0 (.string ⟨#[]⟩) 1 16 Tryd.underlying84 hi hz0 hz1 hz2 rfl (by decide) (.slice A' acc.length cp) acc.length (acc.map Value.string) rfl (ownB_keepS HN3.out.1 ((Keeps.refl _ _).alloc (fun b hb => hb) _)) ⟨w3.heap.size, 0, none⟩ 1 1 [.string s] rfl (by simp) (own_newsS (own_lit w3 0 _ _ 1 1 [.string s] rfl rfl (by decide) (Nat.zero_le _))) ?_ ?_ ?_ ?_ ?_))
            all_goals (try (first | with_reducible exact one1 _ _ | with_reducible exact one2 _ _ _ | with_reducible exact one4 _ _ _ _ _ | with_reducible exact oneM _ _ | exact rfl | exact fun _ _ => rfl | exact ⟨rfl, rfl⟩ | exact ⟨rfl, rfl, rfl⟩ | exact ⟨rfl, rfl, rfl, rfl⟩ | (unfold maxLen; omega) | omega | (simp; omega) | (simp; done)))
            (try clear hi)
            (try clear hz0)
            (try clear hz1)
            (try clear hz2)
            all_goals (try (first | (intro u hu; simp only [List.mem_singleton] at hu; subst hu; rfl) | (simp only [maxLen]; omega) | (simp only [World.size_alloc] at *; omega)))
            intro v' w7 hown hgr _ hf
            have hN5 := HN3.out.push (x := s) hown hgr
            obtain ⟨A5, cp5, rfl⟩ := ownB_form hown
            have hln := Hln.out
            rw [hln] at hN5 ⊢
            clear Hln
            generalize acc ++ [s] = acc5 at *
            clear hown hgr hf HN3 hln
            have HN5 := hid hN5
            clear hN5
            go_wp2_with fail
            go_roundw
            case rel => exact ⟨i + 1, acc5, A5, cp5, rfl, by go_num, by omega, hx4, Hq4, Ho4, He4, Hl4, HN5⟩
            case measure => first | (simp [intOf]; done) | (simp [intOf]; omega)
        · have f2 : (kk == 2) = false := by simpa using h2
          rw [f2, Bool.false_and] at hcall ho2 he2
          have Hcall := hid hcall
          have Ho2 := hid ho2
          have He2 := hid he2
          have Hkq := hid hkq
          have Hkw3 := hid hkw3
          have Hkr := hid hkr
          have Hsn := hid hsn
          clear hcall ho2 he2 hkq hkw3 hkr hsn
          clear h2 h3
          go_wp2_with fail
          refine Hcall.out.mono ?_
          rintro e w3 ⟨s, rfl, g1, _, g2, g3⟩
          have hN3 := Hkq.out _ g3
          have hkw4 := Hkw3.out.trans (g3.mono fun b hb => Nat.lt_of_lt_of_le hb Hkw3.out.size)
          have ho3 := Ho2.out
          have he3 := He2.out
          have hw3 := hkw4.size
          clear a0 a1 a2 a3 g3 Hcall Ho2 He2 Hkq Hkw3 Hkr
          generalize okN n (withD d false) = ok at *
          cases ok with
          | false =>
            have hno : okL kids d pk = false := ho3
            clear ho3 he3 hN3 g1
            have Hno := hid hno
            have Hkw4 := hid hkw4
            clear hno hkw4
            go_wp2_with fail
            exact hR'.out _ _ ⟨⟨#[]⟩, by rw [Hno.out]; rfl, fun h => (by rw [Hno.out] at h; cases h), fun _ => rfl, Nat.zero_le _, Hkw4.out⟩
          | true =>
            have ho4 : okL kids d pk = okL (kids.drop (i + 1)) d pk := ho3
            have g1 := g1 rfl
            have he4 : bytesL (acc ++ [s]) ++ txtL (kids.drop (i + 1)) pk = txtL kids pk := by
              rw [bytesL_snoc, g1, List.append_assoc]
              exact he3
            have hl4 : Lib.lens (bytesL (acc ++ [s])) + 3 * (i + 1) ≤ 700 * sumL id (ns.take (i + 1)) := by
              rw [bytesL_snoc, lens_snoc, Hsn.out, bsize]
              have := HL.out
              omega
            have hln : acc.length + 1 = (acc ++ [s]).length := by simp
            have hq4 : (acc ++ [s]).length = i + 1 := by have := HQ.out; omega
            have hx4 : (acc ++ [s]).length ≤ i + 1 := by omega
            clear ho3 he3 g1 g2 HL
            have Ho4 := hid ho4
            have He4 := hid he4
            have Hl4 := hid hl4
            have Hkw4 := hid hkw4
            have HN3 := hid hN3
            have Hln := hid hln
            have Hq4 := hid hq4
            clear ho4 he4 hl4 hkw4 hN3 hln hq4
            obtain ⟨i0, hi, hz0, hz1, hz2⟩ := info_partsF Tryd.infoStr
            go_wp2_with (at_builtin; go_must (refine wpList_append_own_at _ rfl _ _ 84 rfl (w.heap.size) 9 i0 (.string ⟨#[]⟩) 1 16 Tryd.underlying84 hi hz0 hz1 hz2 rfl (by decide) (.slice A' acc.length cp) acc.length (acc.map Value.string) rfl (ownB_keepS HN3.out.1 ((Keeps.refl _ _).alloc (fun b hb => hb) _)) ⟨w3.heap.size, 0, none⟩ 1 1 [.string s] rfl (by simp) (own_newsS (own_lit w3 0 _ _ 1 1 [.string s] rfl rfl (by decide) (Nat.zero_le _))) ?_ ?_ ?_ ?_ ?_))
            all_goals (try (first | with_reducible exact one1 _ _ | with_reducible exact one2 _ _ _ | with_reducible exact one4 _ _ _ _ _ | with_reducible exact oneM _ _ | exact rfl | exact fun _ _ => rfl | exact ⟨rfl, rfl⟩ | exact ⟨rfl, rfl, rfl⟩ | exact ⟨rfl, rfl, rfl, rfl⟩ | (unfold maxLen; omega) | omega | (simp; omega) | (simp; done)))
            (try clear hi)
            (try clear hz0)
            (try clear hz1)
            (try clear hz2)
            all_goals (try (first | (intro u hu; simp only [List.mem_singleton] at hu; subst hu; rfl) | (simp only [maxLen]; omega) | (simp only [World.size_alloc] at *; omega)))
            intro v' w7 hown hgr _ hf
            have hN5 := HN3.out.push (x := s) hown hgr
            obtain ⟨A5, cp5, rfl⟩ := ownB_form hown
            have hln := Hln.out
            rw [hln] at hN5 ⊢
            clear Hln
            generalize acc ++ [s] = acc5 at *
            clear hown hgr hf HN3 hln
            have HN5 := hid hN5
            clear hN5
            go_wp2_with fail
            go_roundw
            case rel => exact ⟨i + 1, acc5, A5, cp5, rfl, by go_num, by omega, hx4, Hq4, Ho4, He4, Hl4, HN5⟩
            case measure => first | (simp [intOf]; done) | (simp [intOf]; omega)
    · obtain rfl : i = kids.length := by omega
      have hltI : ¬ (kids.length : Int) < (kids.length : Int) := by omega
      have hok : okL kids d pk = true := by rw [HO.out, List.drop_length, okL_nil]
      have hE : bytesL acc = txtL kids pk := by
        have := HE.out
        rw [List.drop_length, txtL_nil, List.append_nil] at this
        exact this
      have hjl : (Lib.join (bytesL acc) sep.data.toList).length ≤ 700 * sumL id ns := by
        have h1 := join_le (bytesL acc) sep.data.toList
        have h2 : (bytesL acc).length = acc.length := by unfold bytesL; simp
        have h3 := HL.out
        have h4 : ns.take kids.length = ns := by rw [← hnl, List.take_length]
        rw [h4] at h3
        have h5 : sep.data.toList.length * (bytesL acc).length ≤ 3 * acc.length := by rw [h2, bsize]; exact Nat.mul_le_mul_right _ hsep
        have h6 := HQ.out
        omega
      have hm3 := Hm.out
      have hjr := join_row HN.out sep (by omega) (by omega)
      have hjx : (⟨(Lib.join (bytesL acc) sep.data.toList).toArray⟩ : ByteArray).data.toList = Lib.join (txtL kids pk) sep.data.toList := by rw [hE]
      have hjs : (⟨(Lib.join (bytesL acc) sep.data.toList).toArray⟩ : ByteArray).size ≤ 700 * sumL id ns := hjl
      generalize (⟨(Lib.join (bytesL acc) sep.data.toList).toArray⟩ : ByteArray) = js at *
      clear HO HE HL HN HQ hE hjl hm3
      have Hok := hid hok
      have Hjr := hid hjr
      have Hjx := hid hjx
      have Hjs := hid hjs
      have Hkr := hid hkr
      clear hok hjr hjx hjs hkr
      go_wp2_with fail
      refine Hjr.out.mono ?_
      rintro e w5 ⟨rfl, hk5⟩
      have hk6 := Hkr.out.trans (hk5.mono fun b hb => by omega)
      clear hk5 Hjr
      have Hk6 := hid hk6
      clear hk6
      go_wp2_with fail
      exact hR'.out _ _ ⟨js, by rw [Hok.out]; rfl, fun _ => Hjx.out, (fun h => by rw [Hok.out] at h; cases h), Hjs.out, Hk6.out⟩
end Go.Proofs.YtbepgbkbpkaodaaDoor
