/- Lemmas on the programs that the statement reaches. -/
import Derived.Test.YtogdknnkhkjmcaaGreatDoorChecked
import Derived.WalkKit
import Derived.WalkSpells
import Derived.WalkLawsBesides
import Derived.Deep.Draws
import Derived.Handy
import Derived.Deep.MidRow
import Derived.Outline
import Derived.Deep.CutBlock
import Derived.Lib.LaidTab
import Derived.ProofKit
import Derived.OpenShut
import Derived.Deep.DeepHandedRow
import Derived.StillTailTactics
import Derived.Deep.CutRange
import Derived.Maps.RangeWalk
import Derived.Maps.OwnOps
import Derived.Maps.Ext
import Derived.Deep.DeepMust
import Derived.BigQuiet
import Derived.Laws.CopyOwn
import Derived.Deep.Slices
import Derived.Deep.Fields
import Derived.ChangeSame
import Derived.SizedLaws
import Derived.Maps.AppendAt
import Derived.IntWalk
import Derived.Laws.IdiomStrings
import Derived.RowKit
import Derived.Deep.QuietTactic
import Derived.RegionTactic
import Derived.ChangeAlike
import Derived.BigRegion
import Derived.Deep.RegionHeld3
import Derived.Deep.DrawnRows
import Derived.StillTail
import Derived.Deep.RegionHeldLaw
import Derived.Deep.AppendLies
import Derived.Lib.DecodeN
import Derived.OrdersHeld
import Derived.Deep.OwnRows
import Derived.Lib.OthersKept
import Derived.Laws.RangeAny
import Derived.Lib.AppendStr
import Derived.Laws.Runes
namespace Go.Proofs.YtogdknnkhkjmcaaGreatDoor
open Go.RowKit
set_option linter.all false
set_option maxRecDepth 1000000
variable {p:Prop}
theorem c745 (h:p:=by
 obtain⟨tv,rfl,hto⟩:=hpo;obtain⟨TA,tc,rfl⟩:=ownB_form hto.1;have hto1:=hto.1;have hto2:∀b,(Value.slice TA toks.length tc).ownBlock=some b→B+1+1+1+1<b:=fun b hb=>by have:=hto.2 b hb;omega
 clear HW hk1 hfl0 hto;have hc9:=(hS1).b0;obtain⟨y0,y1,y2,y3,y4,y5,y6,y7,y8,y9⟩:=hc9.c10;clear hc9;have hc9:=hS1.b3;obtain⟨x0,x1⟩:=hc9.c2;clear hc9;have hpl:=ref12_place cs segs wt wv u0 u1 u2 u3 u4 u5 id A cp (some ⟨b0,o0,none⟩) cp2 w1 K (fun b h9=>Nat.lt_of_lt_of_le (Hb.out b h9) (by have:=hS1.kp.size;omega)) (Hsl.out.keep hS1.kp Hb.out) hcn (Hs2.out.keep hS1.kp Hb.out) Hok.out hn
 rw[hq]at hpl;dsimp only at hpl;have HS1:=hid hS1;have HBB:=hid hBB;have Hto1:=hid hto1;have Hto2:=hid hto2;have Hpl:=hid hpl;clear hS1 hBB hto1 hto2 hpl
 go_wp2_with fail
 refine Hpl.out.mono ?_;rintro e w2 ⟨rfl,hk2⟩;have hS2:=HS1.out.calls hk2;have hto3:=own_of_keep Hto1.out hk2 fun b hb=>own_ne Hto1.out b hb;clear HS1 Hto1 Hpl hk2 y0 y1 y2 y3 y4 y5 y6 y7 y8 y9 x0 x1;exact zz157.down):p:=h
theorem c746 (h:p:=by
 have zz128:=PLift.up @c635;exact c634):p:=h
theorem c747 (h:p:=by
 exact zz81.down):p:=h
theorem c748 (h:p:=by
 have HZZ:=hid (show∀(wa w':World) (b:Nat),Blk wa b [I 0,I 0,I 0,I 0,I 0,I 0]→Keeps (· <wa.heap.size) wa w'→(e0_6 w' b (I 0) (I 0) (I 0) (I 0) (I 0) (I 0) (w'.frozen? ⟨b,0,none⟩=false∧w'.frozen? ⟨b,1,none⟩=false∧w'.frozen? ⟨b,2,none⟩=false∧w'.frozen? ⟨b,3,none⟩=false∧w'.frozen? ⟨b,4,none⟩=false∧w'.frozen? ⟨b,5,none⟩=false))from by
  intro wa w' b h k;have h':=h.keep k h.lt;obtain⟨z0,z1,z2,z3,z4,z5⟩:=h'.c6;exact⟨z0,z1,z2,z3,z4,z5,h'.free 0,h'.free 1,h'.free 2,h'.free 3,h'.free 4,h'.free 5⟩)
 exact zz158.down):p:=h
theorem c749 (h:p:=by
 have hne0:¬w3.heap.size=B:=by omega
 have hne1:¬w3.heap.size=B+1:=by omega
 have HTK:=Htk;have HSL:=Hsb;have HTB:=hid (show∀wa,Keeps (· <w3.heap.size) w3 wa→Z 108 #[(.agg #[I p.base.a0,I p.base.a1,I p.base.a2,I p.base.a3,I p.base.a4,I p.base.a5,I p.size.a0,I p.size.a1,I p.size.a2,I p.size.a3,I p.size.a4,I p.size.a5,I p.cells,I p.slots,I p.live]),(.agg #[I u0,I u1,I u2,I u3,I u4,I u5]),I (k:Int),I z] wa fun e w'=>e= .returned (.tuple #[I (a:Int),(.agg #[I n0,I n1,I n2,I n3,I n4,I n5]),I 0])∧Hid (Keeps (· <w3.heap.size) w3 w')∧
   ((e0_15 w' B (I p.base.a0) (I p.base.a1) (I p.base.a2) (I p.base.a3) (I p.base.a4) (I p.base.a5) (I p.size.a0) (I p.size.a1) (I p.size.a2) (I p.size.a3) (I p.size.a4) (I p.size.a5) (I p.cells) (I p.slots) (I p.live) (d0_6 w' (B+1) (I u0) (I u1) (I u2) (I u3) (I u4) (I u5)))∧¬w'.heap.size=B∧¬w'.heap.size=B+1)from fun wa h1=>by
  refine(HTK.out wa).mono ?_;rintro e w' ⟨rfl,h2⟩;exact⟨rfl,h1.trans (h2.mono fun b hb=>by have:=h1.size;omega),HSS.out _ _ h1 h2⟩)
 have HTA:=hid (show∀wa,Blk wa w3.heap.size [I 0,I 0,I 0,I 0,I 0,I 0]→Keeps (· <w3.heap.size) w3 wa→Z 108 #[(.agg #[I p.base.a0,I p.base.a1,I p.base.a2,I p.base.a3,I p.base.a4,I p.base.a5,I p.size.a0,I p.size.a1,I p.size.a2,I p.size.a3,I p.size.a4,I p.size.a5,I p.cells,I p.slots,I p.live]),(.agg #[I u0,I u1,I u2,I u3,I u4,I u5]),I (k:Int),I z] wa fun e w'=>e= .returned (.tuple #[I (a:Int),(.agg #[I n0,I n1,I n2,I n3,I n4,I n5]),I 0])∧Hid (Keeps (· <w3.heap.size) w3 w')∧Hid (Blk w' w3.heap.size [I 0,I 0,I 0,I 0,I 0,I 0])∧
   (e0_6 w' w3.heap.size (I 0) (I 0) (I 0) (I 0) (I 0) (I 0) (w'.frozen? ⟨w3.heap.size,0,none⟩=false∧w'.frozen? ⟨w3.heap.size,1,none⟩=false∧w'.frozen? ⟨w3.heap.size,2,none⟩=false∧w'.frozen? ⟨w3.heap.size,3,none⟩=false∧w'.frozen? ⟨w3.heap.size,4,none⟩=false∧w'.frozen? ⟨w3.heap.size,5,none⟩=false))∧((e0_15 w' B (I p.base.a0) (I p.base.a1) (I p.base.a2) (I p.base.a3) (I p.base.a4) (I p.base.a5) (I p.size.a0) (I p.size.a1) (I p.size.a2) (I p.size.a3) (I p.size.a4) (I p.size.a5) (I p.cells) (I p.slots) (I p.live) (d0_6 w' (B+1) (I u0) (I u1) (I u2) (I u3) (I u4) (I u5)))∧¬w'.heap.size=B∧¬w'.heap.size=B+1)from fun wa h0 h1=>by
  refine(HTK.out wa).mono ?_;rintro e w' ⟨rfl,h2⟩;exact⟨rfl,h1.trans (h2.mono fun b hb=>by have:=h1.size;omega),h0.keep h2 h0.lt,HZZ.out _ _ _ h0 h2,HSS.out _ _ h1 h2⟩)
 have HD0:=hid hD0;have HD1:=hid hD1;have HD2:=hid hD2;have HN3:=hid hN3;have HkD:=hid hkD;clear hD0 hD1 hD2 hN3 hkD;clear Htk Hsb
 go_upto_region 6 with fail
 go_cut[16,17,18]from 32 to 41 (fun x b e wx=>∃B3,x=I (a:Int)∧b= .pointer (some ⟨B3,0,none⟩)∧e=I 0∧w3.heap.size≤B3∧Blk wx B3 [I n0,I n1,I n2,I n3,I n4,I n5]∧Keeps (· <w3.heap.size) w3 wx)
 case first=>
  go_region_held3 (fun w'=>(e0_15 w' B (I p.base.a0) (I p.base.a1) (I p.base.a2) (I p.base.a3) (I p.base.a4) (I p.base.a5) (I p.size.a0) (I p.size.a1) (I p.size.a2) (I p.size.a3) (I p.size.a4) (I p.size.a5) (I p.cells) (I p.slots) (I p.live) (d0_6 w' (B+1) (I u0) (I u1) (I u2) (I u3) (I u4) (I u5)))) (go_keep)
   (first
    |(go_at_call 67;refine(HSL.out _).mono ?_;rintro e wa ⟨rfl,rfl⟩)
    |(go_at_call 108;refine(HTA.out _ ?_ ?_).mono ?_;(focus((repeat(first|with_reducible exact Blk.new _ _ _|with_reducible refine Blk.drew ?_|with_reducible refine Blk.drewN ?_ _|(with_reducible refine Blk.new' _ _ _ ?_;focus(simp;done))));done));(focus((repeat(first|with_reducible exact Keeps.refl _ _|with_reducible refine Keeps.drew ?_|with_reducible refine Keeps.drewN ?_ _|with_reducible refine Keeps.alloc ?_ ?_ _));all_goals(intro b hb;exact hb)));rintro e wb ⟨rfl,HKW,HBW,⟨zc0,zc1,zc2,zc3,zc4,zc5,zf0,zf1,zf2,zf3,zf4,zf5⟩,⟨q0,q1,q2,q3,q4,q5,q6,q7,q8,q9,q10,q11,q12,q13,q14,q15,q16,q17,q18,q19,q20⟩,hqa,hqb⟩)
    |(go_at_call 108;refine(HTB.out _ ?_).mono ?_;(focus((repeat(first|with_reducible exact Keeps.refl _ _|with_reducible refine Keeps.drew ?_|with_reducible refine Keeps.drewN ?_ _|with_reducible refine Keeps.alloc ?_ ?_ _));all_goals(intro b hb;exact hb)));rintro e wb ⟨rfl,HKW,⟨q0,q1,q2,q3,q4,q5,q6,q7,q8,q9,q10,q11,q12,q13,q14,q15,q16,q17,q18,q19,q20⟩,hqa,hqb⟩))
  all_goals
   go_wp2_with fail
   go_meet
   case rel=>
    refine⟨_,rfl,rfl,rfl,?_,?_,?_⟩
    ·first|exact Nat.le_refl _|exact HKW.out.size
    ·repeat(first|with_reducible exact Blk.new _ _ _|exact HBW.out.set6 _ _ _ _ _ _ rfl|with_reducible refine Blk.drew ?_)
    ·exact c428
 case rest=>
  obtain⟨B3,rfl,rfl,rfl,hB3,hBk,hkc⟩:=hcut;have hE1:=HD1.out.keep hkc HD1.out.lt;have hE2:=HD2.out.keep hkc HD2.out.lt;have hN4:=HN3.out.keep hkc HN3.out.lt;have hkE:Keeps (· <B) w wc:=HkD.out.trans (hkc.mono fun b hb=>by omega)
  have hNl:NB<w3.heap.size:=HN3.out.lt;clear g0 g1 g2 g3 g4 g5 g6 g7 g8 g9 g10 g11 g12 g13 g14 y0 y1 y2 y3 y4 y5 HD0 HD1 HD2 HN3 HkD hkc HSS HZZ HTA HTB HSL HTK;have h3N:B3≠NB:=by omega
  have h31:B3≠B+1:=by omega
  have h32:B3≠B+1+1:=by omega
  by_cases ht0:t=0
  ·subst ht0;have zz131:=PLift.up @c644;exact c643
  ·have hnz:((t:Int) !=0)=true:=by simp only[bne_iff_ne,ne_eq];omega
   have hww:IntKind.u32.wrap (t:Int)=(t:Int):=IntWalk.u32_in _ (by omega)
   have hlx:((cs).map (Value.int .u32)).length=cs.length:=by simp
   have hin:((a:Nat):Int)<(cs.length:Int):=by omega
   have hin0:¬((a:Nat):Int)<0:=by omega
   have hd0:decide (((a:Nat):Int)<0)=false:=decide_eq_false (by omega)
   have hd1:decide ((cs.length:Int)≤((a:Nat):Int))=false:=decide_eq_false (by omega)
   obtain⟨old,hold⟩:∃x,((cs).map (Value.int .u32))[a]? =some x:=⟨_,List.getElem?_eq_getElem (by rw[hlx];omega)⟩
   have hcell:=(hN4.cell (a)).trans hold;have hfr:=hN4.free (a);have hst:=hN4.set (a) (J (t:Int));rw[←List.map_set]at hst;have hF1:=hE1.set_ne (a:=⟨NB,a,none⟩) (J (t:Int)) (by show B+1≠NB;omega)
   have hF2:=hE2.set_ne (a:=⟨NB,a,none⟩) (J (t:Int)) (by show B+1+1≠NB;omega)
   have hF3:=hBk.set_ne (a:=⟨NB,a,none⟩) (J (t:Int)) h3N;have hkF:=hkE.setCell (p:=⟨NB,a,none⟩) (fun h=>by have h:NB<B:=h;omega) (J (t:Int))
   clear hold hE1 hE2 hBk hN4 hkE hlx;have Hst:=hid hst;have HF1:=hid hF1;have HF2:=hid hF2;have HF3:=hid hF3;have HkF:=hid hkF;clear hst hF1 hF2 hF3 hkF
   go_upto_region 11 with fail
   generalize wc.setCell ⟨NB,a,none⟩ (J (t:Int))=w5 at*;clear hcell hfr hin hin0 hd0 hd1 hnz hww;have hN4:=Hst.out;have hE1:=HF1.out;have hE2:=HF2.out;have hBk:=HF3.out;have hkE:=HkF.out;clear Hst HF1 HF2 HF3 HkF;have zz131:=PLift.up @c645;exact c643):p:=h
theorem c750 (h:p:=by
 have hl0:=hB0.lt;have hl1:=hB1.lt;clear hB0 hB1 hB2 hkw hT1;have hkp:0≤(k:Int):=by omega
 go_wp2_with fail
 generalize hBB:w.heap.size=B at*;have hne0:¬w1.heap.size=B:=by omega
 have hne1:¬w1.heap.size=B+1:=by omega
 generalize hZ:szK k=z at*;have HSL:=hid (fun W hW=>hZ▸slab_call k hk W hW);obtain⟨hz1,hz2⟩:=hsz;exact zz5.down):p:=h
theorem c751 (h:p:=by
 have hltI:¬(all.length:Int)<(all.length:Int):=by omega
 have hnx:=HN.out;rw[List.drop_length]at hnx;have hnx:(fr9,more)=(fr,⟨m0,m1,m2,m3,m4,m5⟩):=hnx;injection hnx with hn1 hn2
 subst hn1 hn2;clear HN hmi;have hS6:=HS5.out.keep HK.out fun b hb=>by show b<MB;omega
 have hLB6:=HLB5.out.keep HK.out hLM;have hTO6:=own_of_keep HTO5.out HK.out fun b hb=>HToM.out b hb;clear HS5 HLB5 HTO5 HKA5 HKC5;have hm:Blk wr MB [I m0,I m1,I m2,I m3,I m4,I m5]:=HM.out;clear HM HK;have hw5:IntKind.i64.wrap (wt+fr9)=wt+fr9:=IntWalk.i64_in _ (by omega)
 exact zz159.down):p:=h
theorem c752 (h:p:=by
 have zz129:=PLift.up @c638;exact c637):p:=h
theorem c753 (h:p:=by
 exact zz92.down):p:=h
theorem c754 (h:p:=by
 have hf1:=(Hf1.out.keep hkx fun b hb=>by rcases hb with h|h;exact fun e=>HWD.out.kx (e▸h);(show b≠X;omega))
 have hf2:=(Hf2.out.keep hkx fun b hb=>by rcases hb with h|h;exact fun e=>HWD.out.kx (e▸h);(show b≠X;omega))
 have hm12:=Hm11.out.keep hkx (fun e=>hxm e.symm) (fun e=>hxc e.symm);have hSB2:=HSB.out.keep hkx (by show SB≠X;omega)
 exact zz160.down):p:=h
theorem c755 (h:p:=by
 have hkw2:Keeps (fun b=>b<B∧b≠X∧b≠m∧b≠c) w w12:=(Hk11w.out.mono fun b hb=>⟨hb.1,hb.2.2⟩).trans (hkx.mono fun b hb=>hb.2.1);have hszx:=hkx.size;clear HX11 Hm11 HSB Hk11w Hf1 Hf2 Hsg9 HWB HEB ez;have hsbc:=hSB2;obtain⟨s0,s1,s2,s3,s4,s5,s6,s7,s8,s9⟩:=hsbc.c10;clear hsbc;have y0:w12.cell? ⟨X,35,none⟩=some (.slice CA cs.length cc):=(hbx.cell 35).trans (x_get35 0 _ rfl)
 have y1:w12.cell? ⟨X,36,none⟩=some (.slice TA segs.length tc):=(hbx.cell 36).trans (x_get35 1 _ rfl);have y2:w12.cell? ⟨X,37,none⟩=some (I wt):=(hbx.cell 37).trans (x_get35 2 _ rfl);have y3:w12.cell? ⟨X,38,none⟩=some (J wv):=(hbx.cell 38).trans (x_get35 3 _ rfl);have y4:w12.cell? ⟨X,39,none⟩=some (I u0):=(hbx.cell 39).trans (x_get35 4 _ rfl);have y5:w12.cell? ⟨X,40,none⟩=some (I u1):=(hbx.cell 40).trans (x_get35 5 _ rfl)
 have y6:w12.cell? ⟨X,41,none⟩=some (I u2):=(hbx.cell 41).trans (x_get35 6 _ rfl);have y7:w12.cell? ⟨X,42,none⟩=some (I u3):=(hbx.cell 42).trans (x_get35 7 _ rfl);have y8:w12.cell? ⟨X,43,none⟩=some (I u4):=(hbx.cell 43).trans (x_get35 8 _ rfl);have y9:w12.cell? ⟨X,44,none⟩=some (I u5):=(hbx.cell 44).trans (x_get35 9 _ rfl);have f0:w12.frozen? ⟨X,35,none⟩=false:=hbx.free 35
 have f1:w12.frozen? ⟨X,36,none⟩=false:=hbx.free 36;have f2:w12.frozen? ⟨X,37,none⟩=false:=hbx.free 37;have f3:w12.frozen? ⟨X,38,none⟩=false:=hbx.free 38;have f4:w12.frozen? ⟨X,39,none⟩=false:=hbx.free 39;have f5:w12.frozen? ⟨X,40,none⟩=false:=hbx.free 40;have f6:w12.frozen? ⟨X,41,none⟩=false:=hbx.free 41;have f7:w12.frozen? ⟨X,42,none⟩=false:=hbx.free 42
 have f8:w12.frozen? ⟨X,43,none⟩=false:=hbx.free 43;have f9:w12.frozen? ⟨X,44,none⟩=false:=hbx.free 44;have zz139:=PLift.up @c669;exact c668):p:=h
theorem c756 (h:p:=by
 have hkw2:Keeps (fun b=>b<B∧b≠X∧b≠m∧b≠c) w w11:=(Hk11w.out.mono fun b hb=>⟨hb.1,hb.2.2⟩).trans (hkx.mono fun b hb=>hb.2.1);have hszx:=hkx.size;clear HX11 Hm11 HSB Hk11w Hf1 Hf2 Hsg9 HWB HEB ez;have hsbc:=hSB2;obtain⟨s0,s1,s2,s3,s4,s5,s6,s7,s8,s9⟩:=hsbc.c10;clear hsbc;have y0:w11.cell? ⟨X,35,none⟩=some (.slice CA cs.length cc):=(hbx.cell 35).trans (x_get35 0 _ rfl)
 have y1:w11.cell? ⟨X,36,none⟩=some (.slice TA segs'.length tc):=(hbx.cell 36).trans (x_get35 1 _ rfl);have y2:w11.cell? ⟨X,37,none⟩=some (I t'):=(hbx.cell 37).trans (x_get35 2 _ rfl);have y3:w11.cell? ⟨X,38,none⟩=some (J v'):=(hbx.cell 38).trans (x_get35 3 _ rfl);have y4:w11.cell? ⟨X,39,none⟩=some (I x0):=(hbx.cell 39).trans (x_get35 4 _ rfl);have y5:w11.cell? ⟨X,40,none⟩=some (I x1):=(hbx.cell 40).trans (x_get35 5 _ rfl)
 have y6:w11.cell? ⟨X,41,none⟩=some (I x2):=(hbx.cell 41).trans (x_get35 6 _ rfl);have y7:w11.cell? ⟨X,42,none⟩=some (I x3):=(hbx.cell 42).trans (x_get35 7 _ rfl);have y8:w11.cell? ⟨X,43,none⟩=some (I x4):=(hbx.cell 43).trans (x_get35 8 _ rfl);have y9:w11.cell? ⟨X,44,none⟩=some (I x5):=(hbx.cell 44).trans (x_get35 9 _ rfl);have f0:w11.frozen? ⟨X,35,none⟩=false:=hbx.free 35
 have f1:w11.frozen? ⟨X,36,none⟩=false:=hbx.free 36;have f2:w11.frozen? ⟨X,37,none⟩=false:=hbx.free 37;have f3:w11.frozen? ⟨X,38,none⟩=false:=hbx.free 38;have f4:w11.frozen? ⟨X,39,none⟩=false:=hbx.free 39;have f5:w11.frozen? ⟨X,40,none⟩=false:=hbx.free 40;have f6:w11.frozen? ⟨X,41,none⟩=false:=hbx.free 41;have f7:w11.frozen? ⟨X,42,none⟩=false:=hbx.free 42
 have f8:w11.frozen? ⟨X,43,none⟩=false:=hbx.free 43;have f9:w11.frozen? ⟨X,44,none⟩=false:=hbx.free 44;have zz139:=PLift.up @c670;exact c668):p:=h
theorem c757 (h:p:=by
 have hD:=HZ.out.set15 (I 0) (I 0) (I 0) (I 0) (I 0) (I 0) (I 0) (I 0) (I 0) (I 0) (I 0) (I 0) (I 0) (I 0) (I 0) rfl;have hkk:=HK.out.set15 (b:=B+1) (nb1 B) (I 0) (I 0) (I 0) (I 0) (I 0) (I 0) (I 0) (I 0) (I 0) (I 0) (I 0) (I 0) (I 0) (I 0) (I 0);clear z0 fz0 z1 fz1 z2 fz2 z3 fz3 z4 fz4 z5 fz5 z6 fz6 z7 fz7 z8 fz8 z9 fz9 z10 fz10 z11 fz11 z12 fz12 z13 fz13 z14 fz14 hz;exact zz161.down):p:=h
theorem c758 (h:p:=by
 generalize (((((((((((((((w9.setCell ⟨B+1,0,none⟩ (I 0)).setCell ⟨B+1,1,none⟩ (I 0)).setCell ⟨B+1,2,none⟩ (I 0)).setCell ⟨B+1,3,none⟩ (I 0)).setCell ⟨B+1,4,none⟩ (I 0)).setCell ⟨B+1,5,none⟩ (I 0)).setCell ⟨B+1,6,none⟩ (I 0)).setCell ⟨B+1,7,none⟩ (I 0)).setCell ⟨B+1,8,none⟩ (I 0)).setCell ⟨B+1,9,none⟩ (I 0)).setCell ⟨B+1,10,none⟩ (I 0)).setCell ⟨B+1,11,none⟩ (I 0)).setCell ⟨B+1,12,none⟩ (I 0)).setCell ⟨B+1,13,none⟩ (I 0)).setCell ⟨B+1,14,none⟩ (I 0))=WZ at*
 exact c418):p:=h
theorem c759 (h:p:=by
 generalize (((((((((((((((wr.setCell ⟨B+1,0,none⟩ (I 0)).setCell ⟨B+1,1,none⟩ (I 0)).setCell ⟨B+1,2,none⟩ (I 0)).setCell ⟨B+1,3,none⟩ (I 0)).setCell ⟨B+1,4,none⟩ (I 0)).setCell ⟨B+1,5,none⟩ (I 0)).setCell ⟨B+1,6,none⟩ (I 0)).setCell ⟨B+1,7,none⟩ (I 0)).setCell ⟨B+1,8,none⟩ (I 0)).setCell ⟨B+1,9,none⟩ (I 0)).setCell ⟨B+1,10,none⟩ (I 0)).setCell ⟨B+1,11,none⟩ (I 0)).setCell ⟨B+1,12,none⟩ (I 0)).setCell ⟨B+1,13,none⟩ (I 0)).setCell ⟨B+1,14,none⟩ (I 0))=WZ at*
 obtain⟨d0,d1,d2,d3,d4,d5,d6,d7,d8,d9,d10,d11,d12,d13,d14⟩:=hD.c15;refine bodyPost_ret (v:= .tuple #[.agg #[I 0,I 0,I 0,I 0,I 0,I 0,I 0,I 0,I 0,I 0,I 0,I 0,I 0,I 0,I 0],I 1]) ?_ rfl ?_
 ·exact c630
 ·exact c92):p:=h
theorem c760 (h:p:=by
 have hsl:SlAt w K 1 (.slice A fs.length cp) fs.length (fs.flatMap fun s=>[Value.string s]):=by
  rw[show(fs.flatMap fun s=>[Value.string s])=fs.map Value.string from by clear hsl hfl;induction fs<;>simp_all]
  exact hsl
 obtain⟨res,hres⟩:∃r,r=toksM fs:=⟨_,rfl⟩;rw[←hres];have Hb:=hid hb;have Hsl:=hid hsl;exact zz162.down):p:=h
theorem c761 (h:p:=by
 have Hres:=hid hres;clear hb hsl hres;refine calls_hide fun R' hR'=>?_
 go_enter Tryz.func59,Tryz.ntmps59
 by_cases hl4:4<fs.length
 ·exact c436
 have hl4I:¬(4:Int)<(fs.length:Int):=by omega
 go_upto_region 4 with fail
 have hka:Keeps (· <w.heap.size) w (w.alloc (.cells #[] 128)):=(Keeps.refl _ _).alloc (fun b hb=>hb) _;have hown0:=own_lit w w.heap.size 128 128 3 0 [] rfl rfl (by decide) (Nat.le_refl _)
 have hsz0:=World.size_alloc w (.cells #[] 128);generalize hWB:w.heap.size=WB at*;generalize w.alloc (.cells #[] 128)=wa at*;have Hka:=hid hka;have Hown0:=hid hown0;have Hsz0:=hid hsz0;have HWB:=hid hWB;clear hka hown0 hsz0 hWB
 go_wp2_with fail
 go_loopw[5,15] (fun _ iv wx=>∃(i:Nat),iv=I (i:Int)∧i≤fs.length∧Hid ((fs.take i).any (fun s=>decide (512<s.size))=false)∧wa=wx) (fun _ iv _=>fs.length-(intOf iv).toNat)
 case atStart=>exact⟨0,rfl,Nat.zero_le _,hid (by simp),rfl⟩
 case round=>
  obtain⟨i,rfl,hi,HN,rfl⟩:=hrel
  by_cases hlt:i<fs.length
  ·have hltI:(i:Int)<(fs.length:Int):=by omega
   obtain⟨x,hx⟩:∃x,fs[i]? =some x:=⟨_,List.getElem?_eq_getElem hlt⟩;obtain⟨b0,o0,rfl,hbk,g1⟩:=SlAt.rec (f:=fun s=>[Value.string s]) (fun _ _=>rfl) Hsl.out i x hx;have a0:=(World.cell?_of_block (a:=⟨b0,o0+i*1+0,none⟩) (Hka.out.block b0 (Hb.out _ hbk))).trans (g1 0 _ rfl);simp only[Nat.mul_one,Nat.add_zero]at a0;clear g1
   by_cases hs:512<x.size
   ·have hsI:(512:Int)<(x.size:Int):=by omega
    have hr:res=none:=by
     exact c127
    clear hx;have Hr:=hid hr;clear hr
    go_wp2_with fail
    refine hR'.out _ _ ⟨?_,Hka.out⟩;exact c59
   ·exact c90
  ·obtain rfl:i=fs.length:=by omega
   have zz136:=PLift.up @c659;exact c658):p:=h
theorem c762 (h:p:=by
 have HT:=hid hT;have Hres:=hid hres;clear hb hsl hT hres;refine calls_hide fun R' hR'=>?_
 go_enter Tryz.func50,Tryz.ntmps50
 by_cases hl4:4<fs.length
 ·exact c436
 have hl4I:¬(4:Int)<(fs.length:Int):=by omega
 go_wp2_with fail
 go_loopw[16] (fun iv wx=>∃(i:Nat),iv=I (i:Int)∧i≤fs.length∧Hid ((fs.take i).any (fun s=>decide (512<s.size))=false)∧w=wx) (fun iv _=>fs.length-(intOf iv).toNat)
 case atStart=>exact⟨0,rfl,Nat.zero_le _,hid (by simp),rfl⟩
 case round=>
  obtain⟨i,rfl,hi,HN,rfl⟩:=hrel
  by_cases hlt:i<fs.length
  ·have hltI:(i:Int)<(fs.length:Int):=by omega
   obtain⟨x,hx⟩:∃x,fs[i]? =some x:=⟨_,List.getElem?_eq_getElem hlt⟩;obtain⟨b0,o0,rfl,hbk,g1⟩:=SlAt.rec (f:=fun s=>[Value.string s]) (fun _ _=>rfl) Hsl.out i x hx;have a0:=g1 0 _ rfl;simp only[Nat.mul_one,Nat.add_zero]at a0;clear g1
   by_cases hs:512<x.size
   ·have hsI:(512:Int)<(x.size:Int):=by omega
    have hr:res=none:=by
     exact c127
    clear hx;exact c51
   ·exact c90
  ·obtain rfl:i=fs.length:=by omega
   have zz136:=PLift.up @c660;exact c658):p:=h
theorem c763 (h:p:=by
 have hin:((a+1:Nat):Int)<(cs.length:Int):=by omega
 have hin0:¬((a+1:Nat):Int)<0:=by omega
 have hd0:decide (((a+1:Nat):Int)<0)=false:=decide_eq_false (by omega)
 have hd1:decide ((cs.length:Int)≤((a+1:Nat):Int))=false:=decide_eq_false (by omega)
 exact zz163.down):p:=h
theorem c764 (h:p:=by
 obtain⟨old,hold⟩:∃x,(cs.map (Value.int .u32))[a+1]? =some x:=⟨_,List.getElem?_eq_getElem (by rw[hl0];omega)⟩
 have hcell:=(hN4.cell (a+1)).trans hold;have hfr:=hN4.free (a+1);have hst:=hN4.set (a+1) (J (n:Int));have hst:Blk (w4.setCell ⟨NB,a+1,none⟩ (J (n:Int))) NB ((storesC (cs.set (a+1) (n:Int)) a (C.take 0) 0).map (Value.int .u32)):=by
  rw[show(storesC (cs.set (a+1) (n:Int)) a (C.take 0) 0).map (Value.int .u32)=(cs.map (Value.int .u32)).set (a+1) (J (n:Int))from by rw[List.take_zero];exact List.map_set]
  exact hst
 have hU5:=hU4.set_ne (a:=⟨NB,a+1,none⟩) (J (n:Int)) (by show UB≠NB;omega)
 have hC5:=hC4.set_ne (a:=⟨NB,a+1,none⟩) (J (n:Int)) (by show B+1+1≠NB;omega)
 have hv5:=ownsRow_setCell_other hv4 (a:=⟨NB,a+1,none⟩) (fun e=>by have:=hvn NB e;omega) (J (n:Int))
 have hK5:=hK4.setCell (p:=⟨NB,a+1,none⟩) (fun h=>by have h:NB<B:=h;omega) (J (n:Int))
 clear hold hU4 hC4 hv4 hK4 hN4;have hNU:UB<NB:=by omega
 have Hst:=hid hst;have HU5:=hid hU5;have HC5:=hid hC5;have Hv5:=hid hv5;have HK5:=hid hK5;have Hvn:=hid hvn;clear hst hU5 hC5 hv5 hK5 hvn
 go_wp2_with fail
 clear hcell hfr hin hin0 hd0 hd1 hw2 hw3
 go_loopw[21,50] (fun _ iv wx=>∃(k:Nat),iv=I (k:Int)∧k≤C.length∧Hid (Blk wx NB ((storesC (cs.set (a+1) (n:Int)) a (C.take k) 0).map (Value.int .u32)))∧Hid (Blk wx UB [I u0,I u1,I u2,I u3,I (u4+(2+(C.length:Int))),I u5])∧Hid (Blk wx (B+1+1) [I 0,I 0,I 0,I 0,I 0,I 0])∧Hid (wx.ownsRow 0 32 1 (.slice CA C.length cc) C.length (C.map (Value.int .u32)))∧Hid (Keeps (· <B) w wx)) (fun _ iv _=>C.length-(intOf iv).toNat)
 case atStart=>exact⟨0,rfl,Nat.zero_le _,Hst,HU5,HC5,Hv5,HK5⟩
 case round=>
  clear Hst HU5 HC5 Hv5 HK5;obtain⟨k,rfl,hk,HN,HU,HC,HV,HK⟩:=hrel;have hlen:((storesC (cs.set (a+1) (n:Int)) a (C.take k) 0).map (Value.int .u32)).length=cs.length:=by rw[List.length_map,storesC_len,List.length_set]
  by_cases hlt:k<C.length
  ·have hltI:(k:Int)<(C.length:Int):=by omega
   obtain⟨c,hc⟩:∃c,C[k]? =some c:=⟨_,List.getElem?_eq_getElem hlt⟩;obtain⟨cg,cc',hcf⟩:=ownB_pos HV.out (by omega)
   injection hcf with e1 _ e3
   subst e1;have q0:=own_news HV.out k _ (by rw[List.getElem?_map,hc];rfl)
   rw[Addr.add_lit,Nat.zero_add]at q0;have hwa:IntKind.i64.wrap ((a:Int)+2)=(a:Int)+2:=IntWalk.i64_in _ (by omega)
   have hwb:IntKind.i64.wrap ((a:Int)+2+(k:Int))=((a+2+k:Nat):Int):=by rw[IntWalk.i64_in _ (by omega)];omega
   have hin:((a+2+k:Nat):Int)<(cs.length:Int):=by omega
   have hin0:¬((a+2+k:Nat):Int)<0:=by omega
   have hd0:decide (((a+2+k:Nat):Int)<0)=false:=decide_eq_false (by omega)
   have hd1:decide ((cs.length:Int)≤((a+2+k:Nat):Int))=false:=decide_eq_false (by omega)
   obtain⟨old,hold⟩:∃x,((storesC (cs.set (a+1) (n:Int)) a (C.take k) 0).map (Value.int .u32))[a+2+k]? =some x:=⟨_,List.getElem?_eq_getElem (by rw[hlen];omega)⟩
   have hcell:=(HN.out.cell (a+2+k)).trans hold;have hfr:=HN.out.free (a+2+k);have hst:=HN.out.set (a+2+k) (J c);have hst:Blk (wr.setCell ⟨NB,a+2+k,none⟩ (J c)) NB ((storesC (cs.set (a+1) (n:Int)) a (C.take (k+1)) 0).map (Value.int .u32)):=by
    rw[storesC_take hc,List.map_set];exact hst
   have hU5:=HU.out.set_ne (a:=⟨NB,a+2+k,none⟩) (J c) (by show UB≠NB;omega)
   have hC5:=HC.out.set_ne (a:=⟨NB,a+2+k,none⟩) (J c) (by show B+1+1≠NB;omega)
   have hv5:=ownsRow_setCell_other HV.out (a:=⟨NB,a+2+k,none⟩) (fun e=>by have:=Hvn.out NB e;omega) (J c)
   have hK5:=HK.out.setCell (p:=⟨NB,a+2+k,none⟩) (fun h=>by have h:NB<B:=h;omega) (J c)
   clear hold HN HU HC HV HK hlen hc;have Hst:=hid hst;have HU5:=hid hU5;have HC5:=hid hC5;have Hv5:=hid hv5;have HK5:=hid hK5;clear hst hU5 hC5 hv5 hK5
   go_wp2_with fail
   go_roundw
   case rel=>exact⟨k+1,by go_num,by omega,Hst,HU5,HC5,Hv5,HK5⟩
   case measure=>exact msA
  ·obtain rfl:k=C.length:=by omega
   have hltI:¬(C.length:Int)<(C.length:Int):=by omega
   have hN0:=HN.out;rw[List.take_length]at hN0 hlen;have hwa:IntKind.i64.wrap ((s:Int)+(sl:Int))=((s+sl:Nat):Int):=by rw[IntWalk.i64_in _ (by omega)];omega
   have hwb:IntKind.u32.wrap (a:Int)=(a:Int):=IntWalk.u32_in _ (by omega)
   have hin:((s+sl:Nat):Int)<(cs.length:Int):=by omega
   have hin0:¬((s+sl:Nat):Int)<0:=by omega
   have hd0:decide (((s+sl:Nat):Int)<0)=false:=decide_eq_false (by omega)
   have hd1:decide ((cs.length:Int)≤((s+sl:Nat):Int))=false:=decide_eq_false (by omega)
   obtain⟨old,hold⟩:∃x,((storesC (cs.set (a+1) (n:Int)) a C 0).map (Value.int .u32))[s+sl]? =some x:=⟨_,List.getElem?_eq_getElem (by rw[hlen];omega)⟩
   have hcell:=(hN0.cell (s+sl)).trans hold;have hfr:=hN0.free (s+sl);have hst:=hN0.set (s+sl) (J (a:Int));have hst:Blk (wr.setCell ⟨NB,s+sl,none⟩ (J (a:Int))) NB ((putC cs a (s+sl) (n:Int) C).map (Value.int .u32)):=by
    unfold putC;rw[List.map_set];exact hst
   have hU5:=HU.out.set_ne (a:=⟨NB,s+sl,none⟩) (J (a:Int)) (by show UB≠NB;omega)
   have hC5:=HC.out.set_ne (a:=⟨NB,s+sl,none⟩) (J (a:Int)) (by show B+1+1≠NB;omega)
   have hK5:=HK.out.setCell (p:=⟨NB,s+sl,none⟩) (fun h=>by have h:NB<B:=h;omega) (J (a:Int))
   clear hold HN HU HC HV HK hlen hN0;have Hst:=hid hst;have HU5:=hid hU5;have HC5:=hid hC5;have HK5:=hid hK5;clear hst hU5 hC5 hK5
   go_upto_region 13 with fail
   generalize wr.setCell ⟨NB,s+sl,none⟩ (J (a:Int))=w9 at*;clear hcell hfr hin hin0 hd0 hd1 hwa hwb hltI hlt hk;have hc1:=HU5.out;obtain⟨y0,y1,y2,y3,y4,y5⟩:=hc1.c6;have hc2:=HC5.out;obtain⟨z0,z1,z2,z3,z4,z5⟩:=hc2.c6;have f:=hc2.free;clear hc1 hc2
   go_region
   iterate 2 (first|go_values|go_skip|go_guarded|go_step|go_upon|go_back)
   go_step
   have hE:=(HC5.out.set6 (I u0) (I u1) (I u2) (I u3) (I (u4+(2+(C.length:Int)))) (I u5) rfl).drew;have hkk:=(HK5.out.set6 (b:=B+1+1) (I u0) (I u1) (I u2) (I u3) (I (u4+(2+(C.length:Int)))) (I u5) (by omega)).drew
   have hNN:=(Hst.out.set6_ne (b:=B+1+1) (I u0) (I u1) (I u2) (I u3) (I (u4+(2+(C.length:Int)))) (I u5) (by omega)).drew
   generalize ((((((w9.setCell ⟨B+1+1,0,none⟩ (I u0)).setCell ⟨B+1+1,1,none⟩ (I u1)).setCell ⟨B+1+1,2,none⟩ (I u2)).setCell ⟨B+1+1,3,none⟩ (I u3)).setCell ⟨B+1+1,4,none⟩ (I (u4+(2+(C.length:Int))))).setCell ⟨B+1+1,5,none⟩ (I u5)).drew=WZ at*;obtain⟨d0,d1,d2,d3,d4,d5⟩:=hE.c6;refine bodyPost_ret (v:= .tuple #[.slice (some ⟨NB,0,none⟩) cs.length cs.length,I (a:Int),.agg #[I u0,I u1,I u2,I u3,I (u4+(2+(C.length:Int))),I u5],I 0]) ?_ rfl ?_
   ·simp[results,Tryz.results93,go_sem,d0,d1,d2,d3,d4,d5]
   ·exact hR'.out _ _ ⟨NB,rfl,by omega,hNN,hkk⟩):p:=h
theorem c765 (h:p:=by
 obtain⟨old,hold⟩:∃x,((cs).map (Value.int .u32))[a+1]? =some x:=⟨_,List.getElem?_eq_getElem (by rw[hlx];omega)⟩
 have zz75:=PLift.up @c450;exact c449):p:=h
theorem c766 (h:p:=by
 obtain⟨old,hold⟩:∃x,((cs.set a (t:Int)).map (Value.int .u32))[a+1]? =some x:=⟨_,List.getElem?_eq_getElem (by rw[hlx];omega)⟩
 have zz75:=PLift.up @c451;exact c449):p:=h
theorem c767 (h:p:=by
 clear hC0 hD0 hD1 hD2 hkr f1 f2 c0 c1 p0 z0 p1 z1 p2 z2 p3 z3 p4 z4 p5 z5 p6 z6 p7 z7 p8 z8 p9 z9 p10 z10 p11 z11 p12 z12 p13 z13 p14 z14;rintro W3 ⟨g1,g2⟩;obtain⟨p0,p1,p2,p3,p4,p5,p6,p7,p8,p9,p10,p11,p12,p13,p14⟩:=g1.c15;exact zz164.down):p:=h
theorem c768 (h:p:=by
 refine bodyPost_ret (v:= .tuple #[.agg #[I (3),I (3+4*s0),I (3+4*s0+16*s1),I (3+4*s0+16*s1+64*s2),I (3+4*s0+16*s1+64*s2+256*s3),I (3+4*s0+16*s1+64*s2+256*s3+book),I (4*s0),I (16*s1),I (64*s2),I (256*s3),I book,I room,I al,I 256,I (1+4*docs+256)],I 0]) ?_ rfl ?_
 ·exact c124
 ·refine hR'.out _ _ ⟨?_,g2⟩;rw[Hal.out];unfold ConfM.plan PlanM.val ConfM.all;simp only[if_neg (show¬(256:Int)≤terms by omega),if_pos ht]):p:=h
theorem c769 (h:p:=by
 refine bodyPost_ret (v:= .tuple #[.agg #[I (3),I (3+4*s0),I (3+4*s0+16*s1),I (3+4*s0+16*s1+64*s2),I (3+4*s0+16*s1+64*s2+256*s3),I (3+4*s0+16*s1+64*s2+256*s3+book),I (4*s0),I (16*s1),I (64*s2),I (256*s3),I book,I room,I al,I 512,I (1+4*docs+512)],I 0]) ?_ rfl ?_
 ·exact c124
 ·refine hR'.out _ _ ⟨?_,g2⟩;rw[Hal.out];unfold ConfM.plan PlanM.val ConfM.all;simp only[if_pos ht]):p:=h
theorem c770 (h:p:=by
 refine bodyPost_ret (v:= .tuple #[.agg #[I (3),I (3+4*s0),I (3+4*s0+16*s1),I (3+4*s0+16*s1+64*s2),I (3+4*s0+16*s1+64*s2+256*s3),I (3+4*s0+16*s1+64*s2+256*s3+book),I (4*s0),I (16*s1),I (64*s2),I (256*s3),I book,I room,I al,I 128,I (1+4*docs+128)],I 0]) ?_ rfl ?_
 ·exact c124
 ·refine hR'.out _ _ ⟨?_,g2⟩;rw[Hal.out];unfold ConfM.plan PlanM.val ConfM.all;simp only[if_neg (show¬(256:Int)≤terms by omega),if_neg (show¬(128:Int)≤terms by omega)]):p:=h
theorem c771 (h:p:=by
 have hcfl:∃docs terms q0 q1 q2 q3 book room kk bb,cf=⟨docs,terms,q0,q1,q2,q3,book,room,kk,bb⟩:=⟨_,_,_,_,_,_,_,_,_,_,rfl⟩;obtain⟨docs,terms,q0,q1,q2,q3,book,room,kk,bb,hcfe⟩:=hcfl;exact zz165.down):p:=h
theorem c772 (h:p:=by
 have hcli:cf.list=[I docs,I terms,I q0,I q1,I q2,I q3,I book,I room,kk,bb]:=by rw[hcfe];rfl
 have hlay:=fun W=>lay_yes cf hcf hall W;have hpb:3≤cf.plan.base.a5∧cf.plan.base.a5+cf.plan.size.a5=cf.plan.cells∧cf.plan.cells≤65536∧1≤cf.plan.live∧cf.plan.live≤1000:=by
  exact c97
 generalize cf.plan=p at*;rw[hcli]at hlay ⊢;obtain⟨pb0,pb1,pb2,pb3,pb4⟩:=hpb;have Hlay:=hid hlay;have Hcf:=hid hcf;have Hall:=hid hall;clear hlay hcf hall;clear hcfe hcli;refine calls_hide fun R' hR'=>?_
 go_enter Tryz.func32,Tryz.ntmps32
 go_wp2_with fail
 refine calls_gen (fun W0=>Blk W0 w.heap.size [I docs,I terms,I q0,I q1,I q2,I q3,I book,I room,kk,bb]∧Blk W0 (w.heap.size+1) st0∧Blk W0 (w.heap.size+1+1) zp15∧Keeps (· <w.heap.size) w W0) ⟨?_,?_,?_,?_⟩ (fun W0 HW=>?_)
 ·exact bA
 ·unfold st0;exact bA
 ·unfold zp15;exact bA
 ·exact kA
 obtain⟨hA0,hA1,hA2,hkA⟩:=HW;generalize hBB:w.heap.size=B at*;refine(Hlay.out W0).mono ?_;rintro e w1 ⟨rfl,hk1⟩;have hB1:=hA1.keep hk1 hA1.lt;have hB2:=hA2.keep hk1 hA2.lt;have hkw:Keeps (· <B) w w1:=hkA.trans (hk1.mono fun b hb=>by have:=hA1.lt;omega)
 clear hA0 hA1 hA2 hkA hk1;unfold PlanM.val;have HB1:=hid hB1;have HB2:=hid hB2;have Hkw:=hid hkw;have HBB:=hid hBB;clear hB1 hB2 hkw hBB
 go_upto_region 2 with fail
 refine wp_gen (fun W3=>Blk W3 (B+1) st0∧Blk W3 (B+1+1) zp15∧Blk W3 w1.heap.size p.flat∧Keeps (· <B) w W3∧w1.heap.size<W3.heap.size) ⟨HB1.out.alloc _,HB2.out.alloc _,Blk.new w1 p.flat _,Hkw.out.trans (((Keeps.refl (· <w1.heap.size) w1).alloc (fun b hb=>hb) _).mono fun b hb=>by have:=HB1.out.lt;omega),by simp⟩ (fun w2 HW=>?_)
 have hPl:=HB2.out.lt;clear HB1 HB2 Hkw;obtain⟨hB1,hB2,hP,hkw,hz3⟩:=HW;generalize hPB:w1.heap.size=PB at*;clear hPB;have hpc:=hP;unfold PlanM.flat at hpc;obtain⟨g0,g1,g2,g3,g4,g5,g6,g7,g8,g9,g10,g11,g12,g13,g14⟩:=hpc.c15;clear hpc;have hw1:IntKind.i64.wrap (p.live+2)=p.live+2:=IntWalk.i64_in _ (by omega)
 exact zz8.down):p:=h
theorem c773 (h:p:=by
 have hcli:cf.list=[I docs,I terms,I q0,I q1,I q2,I q3,I book,I room,kk,bb]:=by rw[hcfe];rfl
 have hlay:=fun W' hT'=>pool_lay cf W' hT';exact zz109.down):p:=h
theorem c774 (h:p:=by
 have hcdo:cf.docs=docs:=by rw[hcfe]
 have hcte:cf.terms=terms:=by rw[hcfe]
 have hcli:cf.list=[I docs,I terms,I q0,I q1,I q2,I q3,I book,I room,kk,bb]:=by rw[hcfe];rfl
 obtain⟨hd0,hd1⟩:1≤docs∧docs≤64:=by rw[←hcdo];exact⟨hcf.d0,hcf.d1⟩
 obtain⟨htt0,htt1⟩:64≤terms∧terms≤256:=by rw[←hcte];exact⟨hcf.t0,hcf.t1⟩
 obtain⟨kl,hkl,hlx⟩:=last_ix hlive;obtain⟨b0,o0,rfl,hkb,gl⟩:=SlAt.rec (SegM.len3 segs) hs2 kl live hlx;have hbk:=hb b0 hkb;have hlo:=hok live (List.mem_of_getElem? hlx);unfold PlanM.val;rw[hcli];have Hb:=hid hb;have Hsl:=hid hsl;have Hcf:=hid hcf;have Hlive:=hid hlive;have Hs2:=hid hs2;have Hkl:=hid hkl;have Hlx:=hid hlx;have Hkb:=hid hkb;have Gl:=hid gl;have Hlo:=hid hlo
 have Hok:=hid hok;have Hcdo:=hid hcdo;have Hcte:=hid hcte;have Hcli:=hid hcli;have Hfl:=hid hfl;clear hb hsl hcf hlive hs2 hkl hlx hkb gl hlo hok hcdo hcte hcli hfl;clear hcfe;exact zz130.down):p:=h
theorem c775 (h:p:=by
 have hkw:=HK9.out;have hSr:=HS9.out.keep hkw fun b hb=>⟨by omega,by omega⟩
 have hLBr:=HLB9.out.keep hkw ⟨by omega,by omega⟩
 exact zz166.down):p:=h
theorem c776 (h:p:=by
 have hTOr:=own_of_keep HTO9.out hkw fun b hb=>⟨by have:=HToM.out b hb;omega,by have:=HToM.out b hb;omega⟩
 obtain⟨tg,rfl,gt⟩:=own_rec tokI_len hTOr hx;have htx:=Htsm.out.1 x (List.mem_of_getElem? hx);have hwd:=fun W hs hkk=>ref12_word csi segs wt wv ⟨v0,v1,v2,v3,v4,v5⟩ p P HP.out Hl.out s0 (ld:Int) x ca rc ua tl cb2 t2 ub (some ⟨nbi,0,none⟩) cs.length (.slice A3 segs.length cp3) W (fun b=>b=nbi) hkk hs (by rw[Hcsl.out];exact hn0) (by rw[Hcsl.out];exact hcn) hu9 hs1 (by have:=Hpf.out.n0;have:=Hpf.out.n1;omega) ⟨htx.1,by omega⟩ Hpf.out.s4 Hpf.out.b4 hr1 hr2 (by rw[Hcsl.out]at hr3 ⊢;exact hr3) hr4 ⟨_,_,_,rfl⟩
 rw[Hcsl.out]at hwd;unfold PlanM.val at hwd;have hl2:(cb2.set rc (t2:Int)).length=cs.length:=by rw[List.length_set,hr4.len.1,hr1.len.1,Hcsl.out]
 obtain⟨xf,xt,xp⟩:=x;obtain⟨z0,z1,z2,z3,z4,z5⟩:=ub;unfold tokI at hwd;dsimp only at hwd;have x0:=gt 0 _ (by decide) rfl
 have x1:=gt 1 _ (by decide) rfl
 have x2:=gt 2 _ (by decide) rfl
 simp only[Nat.add_zero]at x0;clear gt;have HWD:=hid hwd;have HR5:=hid hr5;have HL2:=hid hl2;clear hwd hr5 hl2 hr1 hr2 hr3 hr4 hu9 htx hkw HW9;have hlc:=hLBr.cell 1;simp only[List.getElem?_cons_zero,List.getElem?_cons_succ]at hlc;have hpc:=hSr.b2;unfold PlanM.flat at hpc;obtain⟨g0,g1,g2,g3,g4,g5,g6,g7,g8,g9,g10,g11,g12,g13,g14⟩:=hpc.c15;clear hpc;have htb:=HTB9.out
 obtain⟨y0,y1,y2,y3,y4,y5,y6,y7,y8,y9⟩:=htb.c10;have hTBn:¬tg=TB:=by have:=HToM.out tg rfl;omega
 have hLTn:¬LB=TB:=by omega
 have hBTn:¬B+1+1=TB:=by omega
 have Hx:=hid hx;have HSr:=hid hSr;have HLBr:=hid hLBr;have HTOr:=hid hTOr;have Htb:=hid htb;clear hx hSr hLBr hTOr htb;clear HTB9
 go_upto_region 37 with fail
 have qg0:=fun q:KC (fun _=>True) wr=>q.cell trivial g0;have qg1:=fun q:KC (fun _=>True) wr=>q.cell trivial g1;have qg2:=fun q:KC (fun _=>True) wr=>q.cell trivial g2;have qg3:=fun q:KC (fun _=>True) wr=>q.cell trivial g3;have qg4:=fun q:KC (fun _=>True) wr=>q.cell trivial g4;have qg5:=fun q:KC (fun _=>True) wr=>q.cell trivial g5;have qg6:=fun q:KC (fun _=>True) wr=>q.cell trivial g6
 have qg7:=fun q:KC (fun _=>True) wr=>q.cell trivial g7;have qg8:=fun q:KC (fun _=>True) wr=>q.cell trivial g8;have qg9:=fun q:KC (fun _=>True) wr=>q.cell trivial g9;have qg10:=fun q:KC (fun _=>True) wr=>q.cell trivial g10;have qg11:=fun q:KC (fun _=>True) wr=>q.cell trivial g11;have qg12:=fun q:KC (fun _=>True) wr=>q.cell trivial g12;have qg13:=fun q:KC (fun _=>True) wr=>q.cell trivial g13
 have qg14:=fun q:KC (fun _=>True) wr=>q.cell trivial g14;have qy0:=fun q:KC (fun _=>True) wr=>q.cell trivial y0;have qy1:=fun q:KC (fun _=>True) wr=>q.cell trivial y1;have qy2:=fun q:KC (fun _=>True) wr=>q.cell trivial y2;have qy3:=fun q:KC (fun _=>True) wr=>q.cell trivial y3;have qy4:=fun q:KC (fun _=>True) wr=>q.cell trivial y4;have qy5:=fun q:KC (fun _=>True) wr=>q.cell trivial y5
 have qy6:=fun q:KC (fun _=>True) wr=>q.cell trivial y6;have qy7:=fun q:KC (fun _=>True) wr=>q.cell trivial y7;have qy8:=fun q:KC (fun _=>True) wr=>q.cell trivial y8;have qy9:=fun q:KC (fun _=>True) wr=>q.cell trivial y9;have qx0:=fun q:KC (fun _=>True) wr=>q.cell trivial x0;have qx1:=fun q:KC (fun _=>True) wr=>q.cell trivial x1;have qx2:=fun q:KC (fun _=>True) wr=>q.cell trivial x2
 have ql:=fun q:KC (fun _=>True) wr=>q.cell trivial hlc;clear g0 g1 g2 g3 g4 g5 g6 g7 g8 g9 g10 g11 g12 g13 g14 y0 y1 y2 y3 y4 y5 y6 y7 y8 y9 x0 x1 x2 hlc;refine wp_region_kc_tail (fun _=>True) 9 (by kernel_rfl) (by kernel_rfl) ?_
 simp only[List.take_succ_cons,List.take_zero,List.drop_succ_cons,List.drop_zero]
 repeat(go_big_quiet_step (fail))
 refine wpQuiet_nil ?_;rintro wc ⟨⟨_,hkc⟩,rfl⟩;clear qg0 qg1 qg2 qg3 qg4 qg5 qg6 qg7 qg8 qg9 qg10 qg11 qg12 qg13 qg14 qy0 qy1 qy2 qy3 qy4 qy5 qy6 qy7 qy8 qy9 qx0 qx1 qx2 ql;have hNB2:=HNB9.out.keep hkc trivial;have htb2:=Htb.out.keep hkc trivial;have hK2:=HK9.out.trans (hkc.mono fun _ _=>trivial);clear HNB9 Htb HK9 HSr HLBr HTOr;have HNB2:=hid hNB2;have Htb2:=hid htb2;have HK2:=hid hK2
 clear hNB2 htb2 hK2
 go_wp2_with fail
 refine(HWD.out wc (SlAt.of_blk9 HNB2.out (by rw[List.length_map,Hcsl.out]) (by omega)) (fun b hb=>by rw[hb];exact HNB2.out.lt)).mono ?_
 rintro e w8 ⟨nb8,rfl,hge8,hN8,hk8⟩;have htb3:=Htb2.out.keep hk8 Htb2.out.lt;have hK3:=HK2.out.trans (hk8.mono fun b hb=>by have:=HK2.out.size;omega)
 have hgt8:TB<nb8:=by have:=Htb2.out.lt;omega
 clear HNB2 Htb2 HK2 HWD hkc hk8;have htb4:=htb3;obtain⟨y0,y1,y2,y3,y4,y5,y6,y7,y8,y9⟩:=htb4.c10;have f:=htb4.free;clear htb4;have Htb3:=hid htb3;have HK3:=hid hK3;have HN8:=hid hN8;clear htb3 hK3 hN8
 go_wp2_with fail
 have hE:=blk_out10 Htb3.out rfl (.slice (some ⟨nb8,0,none⟩) cs.length cs.length) (.slice A3 segs.length cp3) (I wt) (J wv) (I z0) (I z1) (I z2) (I z3) (I z4) (I z5);have hkE:=keeps_out10 (K:=(· ≠TB)) (b:=TB) (Keeps.refl _ w8) (fun h=>h rfl) (.slice (some ⟨nb8,0,none⟩) cs.length cs.length) (.slice A3 segs.length cp3) (I wt) (J wv) (I z0) (I z1) (I z2) (I z3) (I z4) (I z5);clear y0 y1 y2 y3 y4 y5 y6 y7 y8 y9 f
 generalize ((((((((((w8.setCell ⟨TB,0,none⟩ (.slice (some ⟨nb8,0,none⟩) cs.length cs.length)).setCell ⟨TB,1,none⟩ (.slice A3 segs.length cp3)).setCell ⟨TB,2,none⟩ (I wt)).setCell ⟨TB,3,none⟩ (J wv)).setCell ⟨TB,4,none⟩ (I z0)).setCell ⟨TB,5,none⟩ (I z1)).setCell ⟨TB,6,none⟩ (I z2)).setCell ⟨TB,7,none⟩ (I z3)).setCell ⟨TB,8,none⟩ (I z4)).setCell ⟨TB,9,none⟩ (I z5))=w9 at*;have hN9:=HN8.out.keep hkE (by show nb8≠TB;omega)
 have hK4:=HK3.out.trans (hkE.mono fun b hb=>hb.2);clear HN8 Htb3 HK3 hkE;have HE:=hid hE;have HN9:=hid hN9;have HK4:=hid hK4;clear hE hN9 hK4
 go_roundw
 case rel=>exact⟨i+1,nb8,_,z0,z1,z2,z3,z4,z5,by go_num,by omega,by omega,HR5,HL2,HE,HN9,HK4⟩
 case measure=>exact msA):p:=h
theorem c777 (h:p:=by
 have hor:=own_of_keep Ho9.out hkw fun b hb=>⟨by have:=(Hog9.out b hb).1;omega,by have:=(Hog9.out b hb).1;omega⟩
 have hw6:IntKind.u32.wrap (wv+1)=wv+1:=IntWalk.u32_in _ (by omega)
 have hw7:IntKind.i64.wrap (la+1)=la+1:=IntWalk.i64_in _ (by omega)
 have hw8:IntKind.u32.wrap (toks.length:Int)=(toks.length:Int):=IntWalk.u32_in _ (by omega)
 have hlay:=fun W hk hs=>ref11_lay csi (la+1) (ld:Int) qa id (toks.length:Int) (wv+1) (some ⟨nbi,0,none⟩) cs.length W (fun b=>b=nbi) hk hs (by rw[Hcsl.out];exact hcn) ⟨by omega,by omega⟩ ⟨by omega,by omega⟩ Hqa.out (by rw[Hcsl.out];exact hq2)
 rw[Hcsl.out]at hlay;have Hlay:=hid hlay;clear hlay;have hlc:=hLBr;obtain⟨l0,l1,l2⟩:=hlc.c3;clear hlc;have htb:=HTB9.out;obtain⟨y0,y1,y2,y3,y4,y5,y6,y7,y8,y9⟩:=htb.c10;have hc9:=hSr.b3;obtain⟨x0,x1⟩:=hc9.c2;clear hc9;clear HK9 HTB9 HS9 HLB9 HTO9 Ho9 hkw;have HSr:=hid hSr;have HLBr:=hid hLBr;have Hor:=hid hor;have Htb:=hid htb;clear hSr hLBr hor htb
 go_wp2_with fail
 refine(Hlay.out wr (fun b hb=>by rw[hb];exact HNB9.out.lt) (SlAt.of_blk9 HNB9.out (by rw[List.length_map,Hcsl.out]) (by omega))).mono ?_
 rintro e wa ⟨NL,rfl,hgeL,hNL,hka⟩;have hSa:=HSr.out.calls hka;have hoa:=own_of_keep Hor.out hka fun b hb=>own_ne Hor.out b hb;have htba:=Htb.out.keep hka Htb.out.lt;have hTL:TB<NL:=by have:=Htb.out.lt;omega
 have hll:((layL csi qa id (toks.length:Int) (wv+1)).map (Value.int .u32)).length=cs.length:=by unfold layL;simp[Hcsl.out]
 clear HSr HLBr Hor Htb Hlay hka y0 y1 y2 y3 y4 y5 y6 y7 y8 y9 x0 x1 l0 l1 l2 HNB9;have h1I:(1:Int)<(cs.length:Int):=by omega
 have h1d:decide ((cs.length:Int)≤1)=false:=decide_eq_false (by omega)
 obtain⟨old,hold⟩:∃x,((layL csi qa id (toks.length:Int) (wv+1)).map (Value.int .u32))[1]? =some x:=⟨_,List.getElem?_eq_getElem (by rw[hll];omega)⟩
 have hcell:=(hNL.cell 1).trans hold;have hfr:=hNL.free 1;have hNL2:=hNL.set 1 (J (wv+1));rw[←List.map_set]at hNL2;have hkn:Keeps (· ≠NL) wa (wa.setCell ⟨NL,1,none⟩ (J (wv+1))):=(Keeps.refl _ _).setCell (p:=⟨NL,1,none⟩) (fun h=>h rfl) _;have hSb:=hSa.keep hkn fun b hb=>by show b≠NL;omega
 have htbb:=htba.keep hkn (by show TB≠NL;omega)
 have hob:=own_of_keep hoa hkn fun b hb=>by have:=(Hog9.out b hb).1;show b≠NL;omega
 clear hold hll hSa hoa htba hNL hkn;have HNL2:=hid hNL2;have HSb:=hid hSb;have Htbb:=hid htbb;have Hob:=hid hob;clear hNL2 hSb htbb hob
 go_upto_region 42 with fail
 generalize wa.setCell ⟨NL,1,none⟩ (J (wv+1))=wb at*;clear hcell hfr h1I h1d;have hq9:=Htbb.out;obtain⟨y0,y1,y2,y3,y4,y5,y6,y7,y8,y9⟩:=hq9.c10;have f9:=hq9.free 0;have hst:Blk (wb.setCell ⟨TB,0,none⟩ (.slice (some ⟨NL,0,none⟩) cs.length cs.length)) TB [.slice (some ⟨NL,0,none⟩) cs.length cs.length,.slice A3 segs.length cp3,I wt,J wv,I v0,I v1,I v2,I v3,I v4,I v5]:=hq9.set 0 (.slice (some ⟨NL,0,none⟩) cs.length cs.length)
 have hkn:Keeps (· ≠TB) wb (wb.setCell ⟨TB,0,none⟩ (.slice (some ⟨NL,0,none⟩) cs.length cs.length)):=(Keeps.refl _ _).setCell (p:=⟨TB,0,none⟩) (fun h=>h rfl) _;have hS9x:=HSb.out.keep hkn fun b hb=>by show b≠TB;omega
 have hN9x:=HNL2.out.keep hkn (by show NL≠TB;omega)
 have ho9x:=own_of_keep Hob.out hkn fun b hb=>by have:=(Hog9.out b hb).1;show b≠TB;omega
 clear hq9 hkn HSb HNL2 Hob Htbb;have HSb:=hid hS9x;have HNL2:=hid hN9x;have Hob:=hid ho9x;have Htbb:=hid hst;clear hS9x hN9x ho9x hst
 go_upto_region 43 with fail
 generalize wb.setCell ⟨TB,0,none⟩ (.slice (some ⟨NL,0,none⟩) cs.length cs.length)=wd at*;clear y0 y1 y2 y3 y4 y5 y6 y7 y8 y9 f9;have hq9:=Htbb.out;obtain⟨y0,y1,y2,y3,y4,y5,y6,y7,y8,y9⟩:=hq9.c10;have f9:=hq9.free 3;have hst:Blk (wd.setCell ⟨TB,3,none⟩ (J (wv+1))) TB [.slice (some ⟨NL,0,none⟩) cs.length cs.length,.slice A3 segs.length cp3,I wt,J (wv+1),I v0,I v1,I v2,I v3,I v4,I v5]:=hq9.set 3 (J (wv+1))
 have hkn:Keeps (· ≠TB) wd (wd.setCell ⟨TB,3,none⟩ (J (wv+1))):=(Keeps.refl _ _).setCell (p:=⟨TB,3,none⟩) (fun h=>h rfl) _;have hS9x:=HSb.out.keep hkn fun b hb=>by show b≠TB;omega
 have hN9x:=HNL2.out.keep hkn (by show NL≠TB;omega)
 have ho9x:=own_of_keep Hob.out hkn fun b hb=>by have:=(Hog9.out b hb).1;show b≠TB;omega
 clear hq9 hkn HSb HNL2 Hob Htbb;have HSb:=hid hS9x;have HNL2:=hid hN9x;have Hob:=hid ho9x;have Htbb:=hid hst;clear hS9x hN9x ho9x hst
 go_upto_region 44 with fail
 generalize wd.setCell ⟨TB,3,none⟩ (J (wv+1))=we at*;clear y0 y1 y2 y3 y4 y5 y6 y7 y8 y9 f9;have hq9:=Htbb.out;obtain⟨y0,y1,y2,y3,y4,y5,y6,y7,y8,y9⟩:=hq9.c10;have f9:=hq9.free 2;have hst:Blk (we.setCell ⟨TB,2,none⟩ (I (wt+fr9))) TB [.slice (some ⟨NL,0,none⟩) cs.length cs.length,.slice A3 segs.length cp3,I (wt+fr9),J (wv+1),I v0,I v1,I v2,I v3,I v4,I v5]:=hq9.set 2 (I (wt+fr9))
 have hkn:Keeps (· ≠TB) we (we.setCell ⟨TB,2,none⟩ (I (wt+fr9))):=(Keeps.refl _ _).setCell (p:=⟨TB,2,none⟩) (fun h=>h rfl) _;have hS9x:=HSb.out.keep hkn fun b hb=>by show b≠TB;omega
 have hN9x:=HNL2.out.keep hkn (by show NL≠TB;omega)
 have ho9x:=own_of_keep Hob.out hkn fun b hb=>by have:=(Hog9.out b hb).1;show b≠TB;omega
 clear hq9 hkn HSb HNL2 Hob Htbb;have HSb:=hid hS9x;have HNL2:=hid hN9x;have Hob:=hid ho9x;have Htbb:=hid hst;clear hS9x hN9x ho9x hst
 go_upto_region 45 with fail
 generalize we.setCell ⟨TB,2,none⟩ (I (wt+fr9))=wf at*;clear y0 y1 y2 y3 y4 y5 y6 y7 y8 y9 f9;obtain⟨g3,rfl,gs⟩:=own_rec (fun x:SegM=>(rfl:x.cells.length=3)) Hob.out Hlx.out;have hg3:=Hog9.out g3 rfl;have s1:=gs 1 _ (by decide) rfl
 clear gs;have fg:=ownB_free Hob.out (by have:=Hkl.out;omega) (kl*3+1)
 have hwd9:IntKind.i64.wrap ((ld:Int)+1)=(ld:Int)+1:=IntWalk.i64_in _ (by omega)
 have hw1:IntKind.i64.wrap ((segs.length:Int)-1)=(kl:Int):=by rw[IntWalk.i64_in _ (by have:=Hkl.out;omega)];have:=Hkl.out;omega
 have hkI:(kl:Int)<(segs.length:Int):=by have:=Hkl.out;omega
 have hoS:=own_recSet (fun x:SegM=>(rfl:x.cells.length=3)) Hob.out (j:=1) (a':=⟨la,ld+1,ls⟩) (u:=I ((ld:Int)+1)) Hlx.out (by decide) (by show [_,_,_]=[_,_,_];rw[Int.natCast_add];rfl)
 rw[show segs.set kl ⟨la,ld+1,ls⟩=moreDocs segs from moreDocs_set Hkl.out Hlx.out]at hoS
 have hkn:Keeps (· ≠g3) wf (wf.setCell ⟨g3,kl*3+1,none⟩ (I ((ld:Int)+1))):=(Keeps.refl _ _).setCell (p:=⟨g3,kl*3+1,none⟩) (fun h=>h rfl) _;have hSg:=HSb.out.keep hkn fun b hb=>by show b≠g3;omega
 have hNg:=HNL2.out.keep hkn (by show NL≠g3;omega)
 have htg:=Htbb.out.keep hkn (by show TB≠g3;omega)
 have hq9:=Htbb.out;obtain⟨y0,y1,y2,y3,y4,y5,y6,y7,y8,y9⟩:=hq9.c10;clear hq9 hkn HSb HNL2 Hob Htbb;have HSg:=hid hSg;have HNg:=hid hNg;have Htg:=hid htg;have HoS:=hid hoS;clear hSg hNg htg hoS
 go_upto_region 46 with fail
 generalize wf.setCell ⟨g3,kl*3+1,none⟩ (I ((ld:Int)+1))=wg at*;clear y0 y1 y2 y3 y4 y5 y6 y7 y8 y9 s1 fg hwd9 hw1 hkI;have hq9:=Htg.out;obtain⟨y0,y1,y2,y3,y4,y5,y6,y7,y8,y9⟩:=hq9.c10;clear hq9;have hz9:=(HSg.out).b4;unfold st0 at hz9;obtain⟨z0,z1,z2,z3,z4,z5,z6,z7,z8,z9⟩:=hz9.c10;have f:=hz9.free;clear hz9
 go_region
 iterate 2 (first|go_values|go_skip|go_guarded|go_step|go_upon|go_back)
 go_step
 have hE:=(blk_out10 (HSg.out).b4 rfl (.slice (some ⟨NL,0,none⟩) cs.length cs.length) (.slice (some ⟨g3,0,none⟩) segs.length cp3) (I (wt+fr9)) (J (wv+1)) (I v0) (I v1) (I v2) (I v3) (I v4) (I v5)).drew;have hkk:=(keeps_out10 (b:=B+1+1+1+1) (HSg.out).kp (fun h=>by have h:B+1+1+1+1<B:=h;omega) (.slice (some ⟨NL,0,none⟩) cs.length cs.length) (.slice (some ⟨g3,0,none⟩) segs.length cp3) (I (wt+fr9)) (J (wv+1)) (I v0) (I v1) (I v2) (I v3) (I v4) (I v5)).drew
 have hkn:=(keeps_out10 (K:=(· ≠B+1+1+1+1)) (b:=B+1+1+1+1) (Keeps.refl _ wg) (fun h=>h rfl) (.slice (some ⟨NL,0,none⟩) cs.length cs.length) (.slice (some ⟨g3,0,none⟩) segs.length cp3) (I (wt+fr9)) (J (wv+1)) (I v0) (I v1) (I v2) (I v3) (I v4) (I v5)).drew;clear y0 y1 y2 y3 y4 y5 y6 y7 y8 y9 z0 z1 z2 z3 z4 z5 z6 z7 z8 z9 f;generalize ((((((((((wg.setCell ⟨B+1+1+1+1,0,none⟩ (.slice (some ⟨NL,0,none⟩) cs.length cs.length)).setCell ⟨B+1+1+1+1,1,none⟩ (.slice (some ⟨g3,0,none⟩) segs.length cp3)).setCell ⟨B+1+1+1+1,2,none⟩ (I (wt+fr9))).setCell ⟨B+1+1+1+1,3,none⟩ (J (wv+1))).setCell ⟨B+1+1+1+1,4,none⟩ (I v0)).setCell ⟨B+1+1+1+1,5,none⟩ (I v1)).setCell ⟨B+1+1+1+1,6,none⟩ (I v2)).setCell ⟨B+1+1+1+1,7,none⟩ (I v3)).setCell ⟨B+1+1+1+1,8,none⟩ (I v4)).setCell ⟨B+1+1+1+1,9,none⟩ (I v5)).drew=WZ at*
 obtain⟨d0,d1,d2,d3,d4,d5,d6,d7,d8,d9⟩:=hE.c10;refine bodyPost_ret (v:= .tuple #[I 0,.agg #[.slice (some ⟨NL,0,none⟩) cs.length cs.length,.slice (some ⟨g3,0,none⟩) segs.length cp3,I (wt+fr9),J (wv+1),I v0,I v1,I v2,I v3,I v4,I v5]]) ?_ rfl ?_
 ·exact c88
 ·have hml:(moreDocs segs).length=segs.length:=by rw[←moreDocs_set Hkl.out Hlx.out,List.length_set]
  have hNz:=HNg.out.keep hkn (by show NL≠B+1+1+1+1;omega)
  have hoz:=own_of_keep HoS.out hkn fun b hb=>by injection hb with hb;subst hb;show g3≠B+1+1+1+1;omega
  refine hR'.out _ _ ⟨NL,(some ⟨g3,0,none⟩),cp3,rfl,by omega,by rw[Hcz.out];exact hNz,?_,hkk⟩
  have h9:=own_slAtL hoz;rw[hml]at h9;refine h9.mono fun b hb=>?_;have hb:some g3=some b:=hb;injection hb with hb
  subst hb;have:=hoz.lt g3 rfl;show B≤g3∧g3<WZ.heap.size;exact⟨by omega,this.2⟩):p:=h
theorem c778 (h:p:=by
 have H9:Hid (¬(313≤r∧r≤328)):=hid (fun g=>absurd (hb.2 g) (by decide))
 clear hb
 go_wp2_with fail
 exact zz167.down):p:=h
theorem c779 (h:p:=by
 refine(ref5_in r 377 382 w).mono ?_;rintro e w2 ⟨b,rfl,hb,rfl⟩
 cases b with
 |true=>
  have H10:Hid ((377≤r∧r≤382)):=hid (hb.1 rfl);exact c35
 |false=>
  have H10:Hid (¬(377≤r∧r≤382)):=hid (fun g=>absurd (hb.2 g) (by decide))
  clear hb
  by_cases h11:r%2=0
  ·skip
   have t11:(r%2==0)=true:=by simp[h11]
   have zz47:=PLift.up @c297;exact c296
  ·skip
   have t11:(r%2==0)=false:=by simpa using h11
   have H11:=hid h11;clear h11;exact c2):p:=h
theorem c780 (h:p:=by
 refine(ref5_in r 377 382 w).mono ?_;rintro e w2 ⟨b,rfl,hb,rfl⟩
 cases b with
 |true=>
  have H10:Hid ((377≤r∧r≤382)):=hid (hb.1 rfl);clear hb
  by_cases h11:r%2=1
  ·skip
   have t11:(r%2==1)=true:=by simp[h11]
   have zz47:=PLift.up @c298;exact c296
  ·skip
   have t11:(r%2==1)=false:=by simpa using h11
   have H11:=hid h11;clear h11;exact c2
 |false=>
  have H10:Hid (¬(377≤r∧r≤382)):=hid (fun g=>absurd (hb.2 g) (by decide))
  clear hb
  by_cases h11:r=376
  ·skip
   have t11:(r==376)=true:=by simp[h11]
   have H11:=hid h11;clear h11;have hm:foldM r=255:=by have q0:=H0.out ;have q1:=H1.out ;have q2:=H2.out ;have q3:=H3.out ;have q4:=H4.out ;have q5:=H5.out ;have q6:=H6.out ;have q7:=H7.out ;have q8:=H8.out ;have q9:=H9.out ;have q10:=H10.out ;have q11:=H11.out ;rw[foldM_ifs] ;omega
   clear H0 H1 H2 H3 H4 H5 H6 H7 H8 H9 H10 H11;exact c11
  ·skip
   have t11:(r==376)=false:=by simpa using h11
   have H11:=hid h11;clear h11
   by_cases h12:r=383
   ·skip
    have t12:(r==383)=true:=by simp[h12]
    have H12:=hid h12;clear h12;have hm:foldM r=115:=by have q0:=H0.out ;have q1:=H1.out ;have q2:=H2.out ;have q3:=H3.out ;have q4:=H4.out ;have q5:=H5.out ;have q6:=H6.out ;have q7:=H7.out ;have q8:=H8.out ;have q9:=H9.out ;have q10:=H10.out ;have q11:=H11.out ;have q12:=H12.out ;rw[foldM_ifs] ;omega
    clear H0 H1 H2 H3 H4 H5 H6 H7 H8 H9 H10 H11 H12;exact c11
   ·skip
    have t12:(r==383)=false:=by simpa using h12
    have H12:=hid h12;clear h12
    by_cases h13:r=902
    ·skip
     have t13:(r==902)=true:=by simp[h13]
     have H13:=hid h13;clear h13;have hm:foldM r=940:=by have q0:=H0.out ;have q1:=H1.out ;have q2:=H2.out ;have q3:=H3.out ;have q4:=H4.out ;have q5:=H5.out ;have q6:=H6.out ;have q7:=H7.out ;have q8:=H8.out ;have q9:=H9.out ;have q10:=H10.out ;have q11:=H11.out ;have q12:=H12.out ;have q13:=H13.out ;rw[foldM_ifs] ;omega
     clear H0 H1 H2 H3 H4 H5 H6 H7 H8 H9 H10 H11 H12 H13;exact c11
    ·skip
     have t13:(r==902)=false:=by simpa using h13
     have H13:=hid h13;clear h13
     by_cases h14:r=908
     ·skip
      have t14:(r==908)=true:=by simp[h14]
      have H14:=hid h14;clear h14;have hm:foldM r=972:=by have q0:=H0.out ;have q1:=H1.out ;have q2:=H2.out ;have q3:=H3.out ;have q4:=H4.out ;have q5:=H5.out ;have q6:=H6.out ;have q7:=H7.out ;have q8:=H8.out ;have q9:=H9.out ;have q10:=H10.out ;have q11:=H11.out ;have q12:=H12.out ;have q13:=H13.out ;have q14:=H14.out ;rw[foldM_ifs] ;omega
      clear H0 H1 H2 H3 H4 H5 H6 H7 H8 H9 H10 H11 H12 H13 H14;exact c11
     ·skip
      have t14:(r==908)=false:=by simpa using h14
      have H14:=hid h14;clear h14
      by_cases h15:r=962
      ·skip
       have t15:(r==962)=true:=by simp[h15]
       have H15:=hid h15;clear h15;have hm:foldM r=963:=by have q0:=H0.out ;have q1:=H1.out ;have q2:=H2.out ;have q3:=H3.out ;have q4:=H4.out ;have q5:=H5.out ;have q6:=H6.out ;have q7:=H7.out ;have q8:=H8.out ;have q9:=H9.out ;have q10:=H10.out ;have q11:=H11.out ;have q12:=H12.out ;have q13:=H13.out ;have q14:=H14.out ;have q15:=H15.out ;rw[foldM_ifs] ;omega
       clear H0 H1 H2 H3 H4 H5 H6 H7 H8 H9 H10 H11 H12 H13 H14 H15;exact c11
      ·skip
       have t15:(r==962)=false:=by simpa using h15
       have H15:=hid h15;clear h15
       go_wp2_with fail
       refine(ref5_in r 904 906 w).mono ?_;rintro e w2 ⟨b,rfl,hb,rfl⟩
       cases b with
       |true=>
        have H16:Hid ((904≤r∧r≤906)):=hid (hb.1 rfl);clear hb;have hm:foldM r=r+37:=by have q0:=H0.out ;have q1:=H1.out ;have q2:=H2.out ;have q3:=H3.out ;have q4:=H4.out ;have q5:=H5.out ;have q6:=H6.out ;have q7:=H7.out ;have q8:=H8.out ;have q9:=H9.out ;have q10:=H10.out ;have q11:=H11.out ;have q12:=H12.out ;have q13:=H13.out ;have q14:=H14.out ;have q15:=H15.out ;have q16:=H16.out ;rw[foldM_ifs] ;omega
        clear H0 H1 H2 H3 H4 H5 H6 H7 H8 H9 H10 H11 H12 H13 H14 H15 H16;exact c11
       |false=>
        have zz154:=PLift.up @c737;exact c736):p:=h
theorem c781 (h:p:=by
 refine calls_hide fun R' hR'=>?_
 go_enter Tryz.func38,Tryz.ntmps38
 go_wp2_with fail
 refine calls_gen (fun W0=>AS w W0 w.heap.size [.slice A cs.length cp,.slice (some ⟨b0,o0,none⟩) segs.length cp2,I wt,J wv,I u0,I u1,I u2,I u3,I u4,I u5] cf p [J id,.slice FA fs.length fc]) ⟨?_,?_,?_,?_,?_,?_⟩ (fun W0 HW=>?_)
 ·exact bA
 ·rw[Hcli.out];exact bA
 ·exact c27
 ·exact bA
 ·unfold st0;exact bA
 ·exact kA
 have hfl0:=Hfl.out.keep HW.kp Hb.out;refine(ref6_tokens fs FA fc W0 K (fun b h9=>Nat.lt_of_lt_of_le (Hb.out b h9) HW.kp.size) hfl0 hfn).mono ?_;rintro e w1 ⟨hpo,hk1⟩;rw[htk]at hpo;dsimp only at hpo;have hS1:=HW.calls hk1;generalize hBB:w.heap.size=B at*;have hw0l:=HW.b4.lt;exact zz168.down):p:=h
theorem c782 (h:p:=by
 have zz157:=PLift.up @c746;exact c745):p:=h
theorem c783 (h:p:=by
 exact zz132.down):p:=h
theorem c784 (h:p:=by
 refine wp_region_kc (fun _=>True) (by kernel_rfl) (by kernel_rfl) ?_
 repeat(go_big_quiet_step (exact HOQ.out _))
 refine wpQuiet_nil ?_;rintro w6 ⟨⟨_,hk6⟩,rfl⟩;have hD3:=HD2.out.keep (HD2.out.rm.keep _ hk6 fun _ _ _=>trivial) (hk6.mono fun _ _=>trivial);have hP3:=HP2.out.keep hk6 trivial;have hT3:=own_of_keep HT2.out hk6 fun b hb=>trivial;clear HD2 HP2 HT2 HOQ q1 q3 a1 c0 c1 c2 c3 c4 c5 c6 c7 c8 c9 hk6;exact zz169.down):p:=h
theorem c785 (h:p:=by
 have hc1:=(hD3).b1;unfold WrM.vals at hc1;dsimp only at hc1;obtain⟨y0,y1,y2,y3,y4,y5,y6,y7,y8⟩:=hc1.c9;have hz:=(hD3).b3;unfold zer9 at hz;obtain⟨z0,z1,z2,z3,z4,z5,z6,z7,z8⟩:=hz.c9;have f:=hz.free;clear hc1 hz;have HKG:=hid (show∀b,K b→(fun b=>K b∨(B≤b∧b<B4)) b from fun b hb=>Or.inl hb)
 have HD3:=hid hD3;have HP3:=hid hP3;have HT3:=hid hT3;clear hD3 hP3 hT3
 go_wp2_with fail
 obtain⟨hE,hrr,hkk,hk0⟩:=(HD3.out).out;unfold WrM.vals at hE;dsimp only at hE hrr hkk hk0;clear y0 y1 y2 y3 y4 y5 y6 y7 y8 z0 z1 z2 z3 z4 z5 z6 z7 z8 f;generalize (((((((((w6.setCell ⟨B+1+1+1,0,none⟩ (.slice (some ⟨b0,o0,none⟩) segs.length cp)).setCell ⟨B+1+1+1,1,none⟩ (I wt)).setCell ⟨B+1+1+1,2,none⟩ (J wv)).setCell ⟨B+1+1+1,3,none⟩ (I u0)).setCell ⟨B+1+1+1,4,none⟩ (I u1)).setCell ⟨B+1+1+1,5,none⟩ (I u2)).setCell ⟨B+1+1+1,6,none⟩ (I u3)).setCell ⟨B+1+1+1,7,none⟩ (I u4)).setCell ⟨B+1+1+1,8,none⟩ (I u5))=WZ at*
 obtain⟨d0,d1,d2,d3,d4,d5,d6,d7,d8⟩:=hE.c9;refine bodyPost_ret (v:= .tuple #[.agg #[.slice (some ⟨b0,o0,none⟩) segs.length cp,I wt,J wv,I u0,I u1,I u2,I u3,I u4,I u5],I 5]) ?_ rfl ?_
 ·simp[results,Tryz.results36,go_sem,d0,d1,d2,d3,d4,d5,d6,d7,d8]
 ·exact hR'.out _ _ ⟨⟨rfl,hrr.mono HKG.out⟩,hkk⟩):p:=h
theorem c786 (h:p:=by
 clear hgb hgb2;have hsn:((p.slots.toNat:Nat):Int)=p.slots:=by have:=Hpf.out.n0;omega
 have hsn0:1≤p.slots.toNat∧p.slots.toNat≤512:=by have:=Hpf.out.n0;have:=Hpf.out.n1;omega
 have htsm:=toksM_small htk;rw[Hcdo.out]at hy;have htslt:SlAt w6 (fun b=>K b∨(B≤b∧b<B4)) 3 (.slice TA toks.length tc) toks.length (toks.flatMap tokI):=(own_slAtL hT3).mono fun b hb=>Or.inr ⟨by have:=(htg b hb).1;omega,by have:=(htg b hb).2;omega⟩
 have hterms:=write_terms hD3.rm (lb+4*docs) p.slots.toNat toks TA tc htslt ⟨by omega,by omega⟩ ⟨hsn0.1,by omega⟩ (fun t ht=>⟨(htsm.1 t ht).1,by have:=(htsm.1 t ht).2;omega⟩) (by have:=htsm.2;omega)
 have hts:=((termsT_ok (lb+4*docs) p.slots.toNat hsn0.1 toks [] 0 (fun x hx=>by have:=(htsm.1 x hx).2;omega) ⟨fun t ht=>(by cases ht),Nat.le_refl _⟩).exec hD3.rm.inV).1
 rw[hy]at hterms hts;dsimp only at hterms hts;rw[hsn]at hterms;obtain⟨hts,-,htk2⟩:=hts;have ht64:=htsm.2;clear htslt;have hpc:=hP3;unfold PlanM.flat at hpc;obtain⟨g0,g1,g2,g3,g4,g5,g6,g7,g8,g9,g10,g11,g12,g13,g14⟩:=hpc.c15;clear hpc;have HD3:=hid hD3;have HP3:=hid hP3;have HT3:=hid hT3;have Hterms:=hid hterms;have Hts:=hid hts;have Htk2:=hid htk2;have Htsm:=hid htsm
 have Hy:=hid hy;have Hsn:=hid hsn;clear hD3 hP3 hT3 hterms hts htk2 htsm hy hsn
 skip
 go_wp2_with fail
 refine Hterms.out.mono ?_;rintro e w7 ⟨tv2,rfl,hr7,hto7,hk7⟩;obtain⟨LA,lc,rfl⟩:=ownB_form hto7.1;have hD4:=HD3.out.grow (G':=fun b=>(fun b=>K b∨(B≤b∧b<B4)) b∨(Value.slice LA all.length lc).ownBlock=some b) (fun b hb=>Or.inl hb) hr7 hk7;have hP4:=HP3.out.keep hk7 (Or.inr ⟨by omega,by omega⟩)
 have hT4:=own_of_keep HT3.out hk7 fun b hb=>Or.inr ⟨by have:=(htg b hb).1;omega,by have:=(htg b hb).2;omega⟩
 have hPt:=HT.out.keep hD4.kp HK0.out;have hneeds:=write_needs p Hpf.out.wf all LA lc w7 (fun b=>(Value.slice LA all.length lc).ownBlock=some b) (fun b hb=>own_ne hto7.1 b hb) hPt (own_slAtL hto7.1) (by have:=Hts.out.len;omega) (fun t ht=>by obtain⟨x1,x2,x3⟩:=Hts.out.t t ht;unfold U32 at x1;exact⟨by omega,⟨by omega,by omega⟩,x1⟩)
 rw[hnd]at hneeds;dsimp only at hneeds;unfold V6.val at hneeds;dsimp only at hneeds;clear g0 g1 g2 g3 g4 g5 g6 g7 g8 g9 g10 g11 g12 g13 g14 HD3 HP3 HT3 Hterms hr7 hk7 hPt;have hpc:=hP4;unfold PlanM.flat at hpc;obtain⟨g0,g1,g2,g3,g4,g5,g6,g7,g8,g9,g10,g11,g12,g13,g14⟩:=hpc.c15;clear hpc;have HD4:=hid hD4;have HP4:=hid hP4;have HT4:=hid hT4;have Hneeds:=hid hneeds;have Hto7:=hid hto7
 have Hnd:=hid hnd;clear hD4 hP4 hT4 hneeds hto7 hnd;unfold PlanM.val at Hneeds
 go_wp2_with fail
 refine Hneeds.out.mono ?_;rintro e w8 ⟨rfl,hk8⟩;have hD5:=HD4.out.below hk8;have hP5:=HP4.out.keep hk8 HP4.out.lt;have hT5:=own_of_keep HT4.out hk8 fun b hb=>own_ne HT4.out b hb;have hL5:TermOwn w8 (fun b=>K b∨(B≤b∧b<B4)) (.slice LA all.length lc) all:=⟨own_of_keep Hto7.out.1 hk8 fun b hb=>own_ne Hto7.out.1 b hb,Hto7.out.2⟩;clear g0 g1 g2 g3 g4 g5 g6 g7 g8 g9 g10 g11 g12 g13 g14 HD4 HP4 HT4 Hneeds hk8 Hto7
 have HD5:=hid hD5;have HP5:=hid hP5;have HT5:=hid hT5;have HL5:=hid hL5;clear hD5 hP5 hT5 hL5
 go_wp2_with fail
 refine calls_gen (fun W3=>(∃W2,w8=W2∧W3=W2.alloc (.cells #[I m0,I m1,I m2,I m3,I m4,I m5] 40))) ⟨w8,rfl,rfl⟩ (fun w9 hw9=>?_);obtain⟨_,rfl,hw9⟩:=hw9;have hka:Keeps (· <w8.heap.size) w8 w9:=by rw[hw9];exact(Keeps.refl _ _).alloc (fun b hb=>hb) _
 have hM0:Blk w9 w8.heap.size [I m0,I m1,I m2,I m3,I m4,I m5]:=by rw[hw9];exact Blk.new w8 _ _
 have hz9:w9.heap.size=w8.heap.size+1:=by rw[hw9];exact World.size_alloc _ _
 have hD6:=HD5.out.below hka;have hP6:=HP5.out.keep hka HP5.out.lt;have hT6:=own_of_keep HT5.out hka fun b hb=>own_ne HT5.out b hb;have hL6:TermOwn w9 (fun b=>K b∨(B≤b∧b<B4)) (.slice LA all.length lc) all:=⟨own_of_keep HL5.out.1 hka fun b hb=>own_ne HL5.out.1 b hb,HL5.out.2⟩;generalize hMB:w8.heap.size=MB at*;clear hw9;have hofc:=step_off hD6.rm;refine hofc.mono ?_;rintro e w' ⟨rfl,rfl⟩
 clear hofc;exact zz71.down):p:=h
end Go.Proofs.YtogdknnkhkjmcaaGreatDoor
