/- Lemmas on the programs that the statement reaches. -/
import Derived.Test.YtogdknnkhkjmcaaGreatDoorChecked
import Derived.WalkKit
import Derived.WalkSpells
import Derived.WalkLawsBesides
import Derived.Deep.Draws
import Derived.Handy
import Derived.Deep.MidRow
import Derived.Outline
import Derived.Deep.CutBlock
import Derived.Lib.LaidTab
import Derived.ProofKit
import Derived.OpenShut
import Derived.Deep.DeepHandedRow
import Derived.StillTailTactics
import Derived.Deep.CutRange
import Derived.Maps.RangeWalk
import Derived.Maps.OwnOps
import Derived.Maps.Ext
import Derived.Deep.DeepMust
import Derived.BigQuiet
import Derived.Laws.CopyOwn
import Derived.Deep.Slices
import Derived.Deep.Fields
import Derived.ChangeSame
import Derived.SizedLaws
import Derived.Maps.AppendAt
import Derived.IntWalk
import Derived.Laws.IdiomStrings
import Derived.RowKit
import Derived.Deep.QuietTactic
import Derived.RegionTactic
import Derived.ChangeAlike
import Derived.BigRegion
import Derived.Deep.RegionHeld3
import Derived.Deep.DrawnRows
import Derived.StillTail
import Derived.Deep.RegionHeldLaw
import Derived.Deep.AppendLies
import Derived.Lib.DecodeN
import Derived.OrdersHeld
import Derived.Deep.OwnRows
import Derived.Lib.OthersKept
import Derived.Laws.RangeAny
import Derived.Lib.AppendStr
import Derived.Laws.Runes
namespace Go.Proofs.YtogdknnkhkjmcaaGreatDoor
open Go.RowKit
set_option linter.all false
set_option maxRecDepth 1000000
variable {p:Prop}
theorem c494 (h:p:=by
 refine(token_words x (by omega) wr (HT.out.keep HK.out)).mono ?_
 rintro e w2 ⟨v,rfl,hN1,hN2⟩;generalize wordsR 0 (runesS x)=ws at*;obtain⟨A3,c3,rfl⟩:=ownB_form hN1;have hvl:∀b,(Value.slice A3 ws.length c3).ownBlock=some b→wr.heap.size≤b∧b<w2.heap.size:=fun b hb=>ownB_lt hN1 hb;have hol:∀b,(Value.slice A' acc.length cp').ownBlock=some b→b<wr.heap.size:=fun b hb=>(HO.out.1.lt b hb).2;have hO2:TokOwn w2 (fun b=>b<w.heap.size∨(Value.slice A3 ws.length c3).ownBlock=some b) (.slice A' acc.length cp') acc:=
  ⟨own_of_keep HO.out.1 hN2 hol,fun b hb hk=>by
   rcases hk with hk|hk
   ·exact HO.out.2 b hb hk
   ·have:=hvl b hk;have:=hol b hb;omega⟩
 have hK2:=HK.out.trans (hN2.mono fun b hb=>Nat.lt_of_lt_of_le hb HK.out.size);have hlt2:∀b,(b<w.heap.size∨(Value.slice A3 ws.length c3).ownBlock=some b)→b<w2.heap.size:=fun b hb=>by
  have:=hK2.size
  rcases hb with hb|hb
  ·omega
  ·exact(hvl b hb).2
 clear HO HK hvl hol hN2;have HO2:=hid hO2;have HK2:=hid hK2;have HN1:=hid hN1;have Hlt2:=hid hlt2;clear hO2 hK2 hN1 hlt2
 go_wp2_with fail
 go_loopw[6,34] (fun ov jv wx=>∃(j:Nat) (acc2:List TokI) (A2:Option Addr) (c2:Nat),ov= .slice A2 acc2.length c2∧jv=I (j:Int)∧j≤ws.length∧acc2.length≤600*i+j∧Hid (acc2++((ws.drop j).map (tokF i)++toksL (i+1) (fs.drop (i+1)))=toksL 0 fs)∧
  Hid (TokOwn wx (fun b=>b<w.heap.size∨(Value.slice A3 ws.length c3).ownBlock=some b) (.slice A2 acc2.length c2) acc2)∧Hid (Keeps (fun b=>b<w.heap.size∨(Value.slice A3 ws.length c3).ownBlock=some b) w2 wx)) (fun _ jv _=>ws.length-(intOf jv).toNat)
 case atStart=>exact⟨0,acc,A',cp',rfl,rfl,Nat.zero_le _,by omega,Hex,HO2,hid (Keeps.refl _ _)⟩
 case round=>
  rename World=>wy
  obtain⟨j,acc2,A2,c2,rfl,rfl,hj,hal2,HE2,HO4,HK4⟩:=hrel
  by_cases hjl:j<ws.length
  ·have hjlI:(j:Int)<(ws.length:Int):=by omega
   have zz22:=PLift.up @c213;exact c211
  ·obtain rfl:j=ws.length:=by omega
   have hjlI:¬(ws.length:Int)<(ws.length:Int):=by omega
   have hex:=HE2.out;rw[List.drop_length,List.map_nil,List.nil_append]at hex;have hO7:TokOwn wy (· <w.heap.size) (.slice A2 acc2.length c2) acc2:=⟨HO4.out.1,fun b hb hk=>HO4.out.2 b hb (Or.inl hk)⟩;exact c74):p:=h
theorem c495 (h:p:=by
 obtain⟨old,hold⟩:∃x,(cs2.map (Value.int .u32))[rc]? =some x:=⟨_,List.getElem?_eq_getElem (by rw[hlx];omega)⟩
 have hcell:=(hN5.cell rc).trans hold;have hfr:=hN5.free rc;have hN6:=hN5.set rc (J (t2:Int));rw[←List.map_set]at hN6;have hS6:=hS5.far NP rc (J (t2:Int)) (by omega)
 have hU6:=hU5.set_ne (a:=⟨NP,rc,none⟩) (J (t2:Int)) (by show B5≠NP;omega)
 clear hold hN5 hS5 hU5 hlx;have HN6:=hid hN6;have HS6:=hid hS6;have HU6:=hid hU6;clear hN6 hS6 hU6
 go_upto_region 11 with fail
 generalize wc.setCell ⟨NP,rc,none⟩ (J (t2:Int))=wq at*;clear hcell hfr hd0 hd1 hw2;have hc:=HS6.out.b0;obtain⟨y0,y1,y2,y3,y4,y5,y6,y7,y8,y9⟩:=hc.c10;have f0:=HS6.out.b0.free 0;clear hc;exact zz90.down):p:=h
theorem c496 (h:p:=by
 have hS7:WS w (wq.setCell ⟨B,0,none⟩ (.slice (some ⟨NP,0,none⟩) cs1.length cs1.length)) B [.slice (some ⟨NP,0,none⟩) cs1.length cs1.length,.slice A2 n2 c2,I wt,J wv,I u0,I u1',I u2',I u3,I u4,I u5] p (xf,xt,xp):=HS6.out.set 0 _;have hkB:Keeps (· ≠B) wq (wq.setCell ⟨B,0,none⟩ (.slice (some ⟨NP,0,none⟩) cs1.length cs1.length)):=(Keeps.refl _ _).setCell (p:=⟨B,0,none⟩) (fun h=>h rfl) _
 have hN7:=HN6.out.keep hkB (by show NP≠B;omega)
 have hU7:=HU6.out.keep hkB (by show B5≠B;omega)
 clear hkB HN6 HU6 HS6;have HS7:=hid hS7;have HN7:=hid hN7;have HU7:=hid hU7;clear hS7 hN7 hU7
 go_upto_region 12 with fail
 generalize wq.setCell ⟨B,0,none⟩ (.slice (some ⟨NP,0,none⟩) cs1.length cs1.length)=we at*;clear y0 y1 y2 y3 y4 y5 y6 y7 y8 y9 f0;have hc:=HS7.out.b0;obtain⟨y0,y1,y2,y3,y4,y5,y6,y7,y8,y9⟩:=hc.c10;have f:=hc.free;have hcu:=HU7.out;obtain⟨mm0,mm1,mm2,mm3,mm4,mm5⟩:=hcu.c6;clear hc hcu;have hS8:WS w ((((((we.setCell ⟨B,4,none⟩ (I u2.a0)).setCell ⟨B,5,none⟩ (I u2.a1)).setCell ⟨B,6,none⟩ (I u2.a2)).setCell ⟨B,7,none⟩ (I u2.a3)).setCell ⟨B,8,none⟩ (I u2.a4)).setCell ⟨B,9,none⟩ (I u2.a5)) B [.slice (some ⟨NP,0,none⟩) cs1.length cs1.length,.slice A2 n2 c2,I wt,J wv,I u2.a0,I u2.a1,I u2.a2,I u2.a3,I u2.a4,I u2.a5] p (xf,xt,xp):=((((((HS7.out.set 4 (I u2.a0)).set 5 (I u2.a1)).set 6 (I u2.a2)).set 7 (I u2.a3)).set 8 (I u2.a4)).set 9 (I u2.a5))
 have zz16:=PLift.up @c192;exact c191):p:=h
theorem c497 (h:p:=by
 have hS7:WS w (wq.setCell ⟨B,0,none⟩ (.slice (some ⟨NP,0,none⟩) cs.length cs.length)) B [.slice (some ⟨NP,0,none⟩) cs.length cs.length,.slice A2 n2 c2,I wt,J wv,I u0,I u1',I u2',I u3,I z9,I u5] p (xf,xt,xp):=HS6.out.set 0 _;have hkB:Keeps (· ≠B) wq (wq.setCell ⟨B,0,none⟩ (.slice (some ⟨NP,0,none⟩) cs.length cs.length)):=(Keeps.refl _ _).setCell (p:=⟨B,0,none⟩) (fun h=>h rfl) _
 have hN7:=HN6.out.keep hkB (by show NP≠B;omega)
 have hU7:=HU6.out.keep hkB (by show B5≠B;omega)
 clear hkB HN6 HU6 HS6;have HS7:=hid hS7;have HN7:=hid hN7;have HU7:=hid hU7;clear hS7 hN7 hU7
 go_upto_region 12 with fail
 generalize wq.setCell ⟨B,0,none⟩ (.slice (some ⟨NP,0,none⟩) cs.length cs.length)=we at*;clear y0 y1 y2 y3 y4 y5 y6 y7 y8 y9 f0;have hc:=HS7.out.b0;obtain⟨y0,y1,y2,y3,y4,y5,y6,y7,y8,y9⟩:=hc.c10;have f:=hc.free;have hcu:=HU7.out;obtain⟨mm0,mm1,mm2,mm3,mm4,mm5⟩:=hcu.c6;clear hc hcu;have hS8:WS w ((((((we.setCell ⟨B,4,none⟩ (I u2.a0)).setCell ⟨B,5,none⟩ (I u2.a1)).setCell ⟨B,6,none⟩ (I u2.a2)).setCell ⟨B,7,none⟩ (I u2.a3)).setCell ⟨B,8,none⟩ (I u2.a4)).setCell ⟨B,9,none⟩ (I u2.a5)) B [.slice (some ⟨NP,0,none⟩) cs.length cs.length,.slice A2 n2 c2,I wt,J wv,I u2.a0,I u2.a1,I u2.a2,I u2.a3,I u2.a4,I u2.a5] p (xf,xt,xp):=((((((HS7.out.set 4 (I u2.a0)).set 5 (I u2.a1)).set 6 (I u2.a2)).set 7 (I u2.a3)).set 8 (I u2.a4)).set 9 (I u2.a5))
 have zz16:=PLift.up @c193;exact c191):p:=h
theorem c498 (h:p:=by
 obtain⟨hE,hrr,hkk,hk0⟩:=(HD6.out).out;unfold WrM.vals at hE;dsimp only at hE hrr hkk hk0;clear y0 y1 y2 y3 y4 y5 y6 y7 y8 z0 z1 z2 z3 z4 z5 z6 z7 z8 f;generalize (((((((((w9.setCell ⟨B+1+1+1,0,none⟩ (.slice (some ⟨b0,o0,none⟩) segs.length cp)).setCell ⟨B+1+1+1,1,none⟩ (I wt)).setCell ⟨B+1+1+1,2,none⟩ (J wv)).setCell ⟨B+1+1+1,3,none⟩ (I u0)).setCell ⟨B+1+1+1,4,none⟩ (I u1)).setCell ⟨B+1+1+1,5,none⟩ (I u2)).setCell ⟨B+1+1+1,6,none⟩ (I u3)).setCell ⟨B+1+1+1,7,none⟩ (I u4)).setCell ⟨B+1+1+1,8,none⟩ (I u5))=WZ at*
 obtain⟨d0,d1,d2,d3,d4,d5,d6,d7,d8⟩:=hE.c9;exact zz91.down):p:=h
theorem c499 (h:p:=by
 refine bodyPost_ret (v:= .tuple #[.agg #[.slice (some ⟨b0,o0,none⟩) segs.length cp,I wt,J wv,I u0,I u1,I u2,I u3,I u4,I u5],I 5]) ?_ rfl ?_
 ·exact c73
 ·exact c100):p:=h
theorem c500 (h:p:=by
 refine bodyPost_ret (v:= .tuple #[.agg #[.slice (some ⟨b0,o0,none⟩) segs.length cp,I wt,J wv,I u0,I u1,I u2,I u3,I u4,I u5],I 0]) ?_ rfl ?_
 ·exact c73
 ·exact c100):p:=h
theorem c501 (h:p:=by
 have zz159:=PLift.up @c753;exact c751):p:=h
theorem c502 (h:p:=by
 have hgt:terms<wt+fr9:=by have:=Hcte.out;omega
 have hgt2:decide (wt+fr9>terms)=true:=decide_eq_true hgt;have hc9:=(hS6).b0;obtain⟨y0,y1,y2,y3,y4,y5,y6,y7,y8,y9⟩:=hc9.c10;clear hc9;have hc9:=hS6.b1;rw[Hcli.out]at hc9;have c1:=hc9.cell 1;simp only[List.getElem?_cons_zero,List.getElem?_cons_succ]at c1;clear hc9;have hz9:=(hS6).b4;unfold st0 at hz9;obtain⟨z0,z1,z2,z3,z4,z5,z6,z7,z8,z9⟩:=hz9.c10;have f:=hz9.free
 clear hz9;have HS6:=hid hS6;have HLB6:=hid hLB6;have HTO6:=hid hTO6;have Hm:=hid hm;clear hS6 hLB6 hTO6 hm
 go_upto_region 30 with fail
 go_region
 iterate 2 (first|go_values|go_skip|go_guarded|go_step|go_upon|go_back)
 go_step
 have hE:=(blk_out10 (HS6.out).b4 rfl (.slice (some ⟨cb,co,none⟩) cs.length cp) (.slice (some ⟨b0,o0,none⟩) segs.length cp2) (I wt) (J wv) (I u0) (I u1) (I u2) (I u3) (I u4) (I u5)).drew;have hkk:=(keeps_out10 (b:=B+1+1+1+1) (HS6.out).kp (fun h=>by have h:B+1+1+1+1<B:=h;omega) (.slice (some ⟨cb,co,none⟩) cs.length cp) (.slice (some ⟨b0,o0,none⟩) segs.length cp2) (I wt) (J wv) (I u0) (I u1) (I u2) (I u3) (I u4) (I u5)).drew
 have hkn:=(keeps_out10 (K:=(· ≠B+1+1+1+1)) (b:=B+1+1+1+1) (Keeps.refl _ wr) (fun h=>h rfl) (.slice (some ⟨cb,co,none⟩) cs.length cp) (.slice (some ⟨b0,o0,none⟩) segs.length cp2) (I wt) (J wv) (I u0) (I u1) (I u2) (I u3) (I u4) (I u5)).drew;clear y0 y1 y2 y3 y4 y5 y6 y7 y8 y9 z0 z1 z2 z3 z4 z5 z6 z7 z8 z9 f;generalize ((((((((((wr.setCell ⟨B+1+1+1+1,0,none⟩ (.slice (some ⟨cb,co,none⟩) cs.length cp)).setCell ⟨B+1+1+1+1,1,none⟩ (.slice (some ⟨b0,o0,none⟩) segs.length cp2)).setCell ⟨B+1+1+1+1,2,none⟩ (I wt)).setCell ⟨B+1+1+1+1,3,none⟩ (J wv)).setCell ⟨B+1+1+1+1,4,none⟩ (I u0)).setCell ⟨B+1+1+1+1,5,none⟩ (I u1)).setCell ⟨B+1+1+1+1,6,none⟩ (I u2)).setCell ⟨B+1+1+1+1,7,none⟩ (I u3)).setCell ⟨B+1+1+1+1,8,none⟩ (I u4)).setCell ⟨B+1+1+1+1,9,none⟩ (I u5)).drew=WZ at*
 obtain⟨d0,d1,d2,d3,d4,d5,d6,d7,d8,d9⟩:=hE.c10;refine bodyPost_ret (v:= .tuple #[I 5,.agg #[.slice (some ⟨cb,co,none⟩) cs.length cp,.slice (some ⟨b0,o0,none⟩) segs.length cp2,I wt,J wv,I u0,I u1,I u2,I u3,I u4,I u5]]) ?_ rfl ?_
 ·exact c88
 ·exact c92):p:=h
theorem c503 (h:p:=by
 have zz129:=PLift.up @c639;exact c637):p:=h
theorem c504 (h:p:=by
 have hn0:0≤C.all∧3≤C.all:=by
  obtain⟨d0,d1,t0,t1,a0,a1,b0,b1,c0,c1,e0,e1,k0,k1,r0,r1⟩:=h.1;unfold ConfM.all;omega
 have hlive:1≤C.plan.live∧C.plan.live≤1000:=by
  have h1:=h.1.d0;have h2:=h.1.d1;unfold ConfM.plan;dsimp only
  split
  ·omega
  ·split<;>omega
 have hlay:=fun W=>lay_yes C h.1 (by omega) W
 have hpc9:C.plan.cells=C.all:=rfl;obtain⟨n,hn⟩:∃n:Nat,C.all=(n:Int):=⟨C.all.toNat,by omega⟩
 have hn1:3≤n∧n≤5000:=by omega
 obtain⟨hn1,hn2⟩:=hn1;exact zz93.down):p:=h
theorem c505 (h:p:=by
 have hnew:=fun W (hT:PTab W) mp hlen=>new_full (w:=W) hT C ⟨h.1,by omega⟩ mp n hlen hn.symm hfu hlive
 have href:=fun W=>ref12_new_full C h.1 (by omega) W hfu
 have Hpn:=hid (hpc9.trans hn);clear hfu hlive hpc9 hn0 h hn;have zz135:=PLift.up @c656;exact c655):p:=h
theorem c506 (h:p:=by
 have hb5:=plan_base5 C h.1;have hbk9:=h.1.k0;have hsz4:C.plan.size.a4=C.book:=rfl;have hnew:=fun W (hT:PTab W) m c (hm:MemAt W m c ⟨List.replicate n 0,0,0⟩) hm0 hc0=>new_good (w:=W) hT C ⟨h.1,by omega⟩ (m:=m) (c:=c) hm hm0 hc0 (by rw[List.length_replicate];exact hn.symm) hfu hlive (by omega)
 have href:=fun W=>ref12_new_good C h.1 (by omega) W n hn hfu
 have hcells:((((⟨List.replicate n 0,0,0⟩:MemS).store (C.plan.base.a5+C.plan.live) 1).store (C.plan.base.a5+C.plan.live+1) C.plan.base.a5).store 2 (C.plan.base.a5+C.plan.live)).cells=newC C:=by
  have i1:∀(μ:MemS) (a v:Int),0≤a→a<(μ.cells.length:Int)→(μ.store a v).cells=μ.cells.set a.toNat v:=fun μ a v g1 g2=>by
   unfold MemS.store;rw[if_pos ((inb_iff _ _).2 ⟨g1,g2⟩)]
  have l1:∀(μ:MemS) (a v:Int),(μ.store a v).cells.length=μ.cells.length:=fun μ a v=>by
   unfold MemS.store
   split
   ·exact List.length_set ..
   ·rfl
  have hle:=by have h9:=hb5.2.2;exact h9
  rw[i1 _ _ _ (by omega) (by rw[l1,l1,List.length_replicate];omega),i1 _ _ _ (by omega) (by rw[l1,List.length_replicate];omega),i1 _ _ _ (by omega) (by rw[List.length_replicate];omega)]
  unfold newC;rw[hn,Int.toNat_natCast];rfl
 have hnl:newL C n=newC C:=by unfold newL newC;rw[hn,Int.toNat_natCast]
 have hnlen:(newC C).length=n:=by unfold newC;rw[hn,Int.toNat_natCast];simp
 generalize (((⟨List.replicate n 0,0,0⟩:MemS).store (C.plan.base.a5+C.plan.live) 1).store (C.plan.base.a5+C.plan.live+1) C.plan.base.a5).store 2 (C.plan.base.a5+C.plan.live)=μ1 at*;rw[hnl]at href;have hnw:newW C=⟨[⟨C.plan.base.a5,0,false⟩],0,0,⟨0,0,0,0,0,C.plan.live+2⟩⟩:=rfl;have hxc:∀m v1 cv v2,xCells C m (newW C) v1 cv v2=C.list++(C.plan.flat++(.pointer (some ⟨m,0,none⟩)::((newW C).vals v1++(cv::(newW C).vals v2)))):=fun _ _ _ _=>rfl
 have Hpn:=hid (hpc9.trans hn);have Hnw:=hid hnw;have Hxc:=hid hxc;have Hcells:=hid hcells;have Hnlen:=hid hnlen;clear hfu hlive hpc9 hn0 h hn hnw hxc hcells hnl hnlen hb5 hbk9 hsz4;generalize newC C=ncs at*;generalize newW C=nw at*;have zz135:=PLift.up @c657;exact c655):p:=h
theorem c507 (h:p:=by
 have zz134:=PLift.up @c654;exact c652):p:=h
theorem c508 (h:p:=by
 go_wp2_with fail
 refine bp_gen (fun W=>Blk W (b+1) [I (3),I (3+4*s0),I (3+4*s0+16*s1),I (3+4*s0+16*s1+64*s2),I (3+4*s0+16*s1+64*s2+256*s3),I (3+4*s0+16*s1+64*s2+256*s3+book),I (4*s0),I (16*s1),I (64*s2),I (256*s3),I book,I room,I al,I 256,I (1+4*docs+256)]∧Keeps (· <b) w W) ⟨?_,?_⟩ ?_
 ·exact c62
 ·exact kA
 have zz164:=PLift.up @c768;exact c767):p:=h
theorem c509 (h:p:=by
 have hss:=((hD1.set 12 (I al)).set 13 (I 256)).cell 13
 simp at hss
 go_wp2_with fail
 refine bp_gen (fun W=>Blk W (b+1) [I (3),I (3+4*s0),I (3+4*s0+16*s1),I (3+4*s0+16*s1+64*s2),I (3+4*s0+16*s1+64*s2+256*s3),I (3+4*s0+16*s1+64*s2+256*s3+book),I (4*s0),I (16*s1),I (64*s2),I (256*s3),I book,I room,I al,I 512,I (1+4*docs+512)]∧Keeps (· <b) w W) ⟨?_,?_⟩ ?_
 ·exact c62
 ·exact kA
 have zz164:=PLift.up @c769;exact c767):p:=h
theorem c510 (h:p:=by
 have hf2l:SlAt w14 (· <w14.heap.size) 3 (.slice A4 segs'.length c4) segs'.length (segs'.flatMap SegM.cells):=hf2.mono fun b hb=>by rcases hb with h|h;(have:=Hnwc.out b h;omega);(show b<w14.heap.size;omega)
 have hf1l:SlAt w14 (· <w14.heap.size) 1 (.slice A3 cs'.length c3) cs'.length (cs'.map (Value.int .u32)):=hf1.mono fun b hb=>by rcases hb with h|h;(have:=Hnwc.out b h;omega);(show b<w14.heap.size;omega)
 have hns':segs'.length≤65536:=HNS.out;exact zz95.down):p:=h
theorem c511 (h:p:=by
 have HA1:=hid (show∀wa,Keeps (· <w14.heap.size) w14 wa→Z 27 #[.agg #[.slice A9 segs'.length c9,I t',J v',I x0,I x1,I x2,I x3,I x4,I x5],.agg #[.slice A4 segs'.length c4,I t',J v',I x0,I x1,I x2,I x3,I x4,I x5]] wa fun e w'=>e= .returned (.bool true)∧Hid (Keeps (· <w14.heap.size) w14 w')∧(d25_20 w' X (.pointer (some ⟨m,0,none⟩)) (.slice A9 segs'.length c9) (I t') (J v') (I x0) (I x1) (I x2) (I x3) (I x4) (I x5) (.slice A3 cs'.length c3) (.slice A4 segs'.length c4) (I t') (J v') (I x0) (I x1) (I x2) (I x3) (I x4) (I x5))from fun wa h1=>by
  refine(ref12_same segs' t' v' x0 x1 x2 x3 x4 x5 (A:=A9) (cp:=c9) (A2:=A4) (cp2:=c4) wa (· <w14.heap.size) (fun b hb=>by have:=h1.size;omega) (hsAl.keep h1 fun b hb=>hb) (hf2l.keep h1 fun b hb=>hb) hns').mono ?_
  rintro e w' ⟨rfl,h4⟩;have h9:=h1.trans (h4.mono fun b hb=>by have:=h1.size;omega)
  exact⟨rfl,h9,HSS.out _ h9⟩)
 have HA2:=hid (show∀wa,Keeps (· <w14.heap.size) w14 wa→Z 20 #[.pointer (some ⟨m,0,none⟩)] wa fun e w'=>∃nb,e= .returned (.slice (some ⟨nb,0,none⟩) cs'.length cs'.length)∧Hid (Blk w' nb (cs'.map (Value.int .u32))∧Keeps (· <w14.heap.size) w14 w')∧(d25_20 w' X (.pointer (some ⟨m,0,none⟩)) (.slice A9 segs'.length c9) (I t') (J v') (I x0) (I x1) (I x2) (I x3) (I x4) (I x5) (.slice A3 cs'.length c3) (.slice A4 segs'.length c4) (I t') (J v') (I x0) (I x1) (I x2) (I x3) (I x4) (I x5))from fun wa h1=>by
  refine(mem_cells (hm14.keep h1 hm14.obj.lt hm14.cells.lt)).mono ?_;rintro e w' ⟨rfl,h3,h4⟩;rw[Q4.out]at h3 ⊢;have h9:=h1.trans (h4.mono fun b hb=>by have:=h1.size;omega)
  exact⟨_,rfl,⟨h3,h9⟩,HSS.out _ h9⟩)
 have HA3:=hid (show∀wa nb,Blk wa nb (cs'.map (Value.int .u32))→Keeps (· <w14.heap.size) w14 wa→Z 26 #[.slice (some ⟨nb,0,none⟩) cs'.length cs'.length,.slice A3 cs'.length c3] wa fun e w'=>e= .returned (.bool true)∧Hid (Keeps (· <w14.heap.size) w14 w')∧(d25_20 w' X (.pointer (some ⟨m,0,none⟩)) (.slice A9 segs'.length c9) (I t') (J v') (I x0) (I x1) (I x2) (I x3) (I x4) (I x5) (.slice A3 cs'.length c3) (.slice A4 segs'.length c4) (I t') (J v') (I x0) (I x1) (I x2) (I x3) (I x4) (I x5))from fun wa nb h0 h1=>by
  have hcm:cs'.length≤maxLen:=HCM.out;have h7:=SlAt.of_blk (K:=fun b=>b<wa.heap.size) h0 h0.lt (by rw[List.length_map];exact hcm)
  rw[List.length_map]at h7;refine(same_any (K:=fun b=>b<wa.heap.size) h7 ((hf1l.keep h1 fun b hb=>hb).mono fun b hb=>by have:=h1.size;show b<wa.heap.size;omega)).mono ?_
  rintro e w' ⟨rfl,nn,rfl⟩;have h9:=h1.drewN nn;exact⟨by rw[decide_eq_true rfl],h9,HSS.out _ h9⟩)
 have HSA:=hid hsA;have HF1:=hid hf1;have HF2:=hid hf2;have HM14:=hid hm14;have HK14:=hid hkw4;have HBY:=hid hby;clear hsA hf1 hf2 hm14 hkw4 hby hsAl hf1l hf2l;have HFIN:=hid (show∀WZ,Keeps (· <w14.heap.size) w14 WZ→(∃st',Wd w0 WZ (fun b=>K b∨(B≤b∧b<WZ.heap.size)) X m c C cs' ⟨segs',t',v',⟨x0,x1,x2,x3,x4,x5⟩⟩ st'∧(tr.wr cs=0→st'=st))∧Keeps (fun b=>b<B∧b≠X∧b≠m∧b≠c) w WZ from fun WZ hz=>by
  have hsz:=hz.size;have hl14:=HK14.out.size;have big:Keeps (fun b=>b<B∧b≠X∧b≠m∧b≠c) w WZ:=HK14.out.trans (hz.mono fun b hb=>by omega)
  have hKn:∀b,K b→b<B∧b≠X∧b≠m∧b≠c:=fun b hb=>⟨Hnwc.out b hb,fun e=>HWD.out.kx (e▸hb),fun e=>HWD.out.km (e▸hb),fun e=>HWD.out.kc (e▸hb)⟩;have hmB:m<B:=by have:=HM.out.obj.lt;omega
  have hcB:c<B:=by have:=HM.out.cells.lt;omega
  refine⟨⟨s'.m.stores,⟨⟨A9,c9,A3,c3,A4,c4,HBY.out.keep hz HBY.out.lt,?_,?_,?_⟩,⟨s'.m,HM14.out.keep hz HM14.out.obj.lt HM14.out.cells.lt,Q4.out,rfl⟩,?_,?_,?_,?_,HWD.out.xm,HWD.out.xc,fun b hb=>Or.inl (HWD.out.k0 b hb),HWD.out.kp.trans (big.mono fun b hb=>hKn b (HWD.out.k0 b hb))⟩,Hst9.out⟩,big⟩
  ·exact c111
  ·exact c112
  ·exact c113
  ·rintro(h|h)
   ·exact HWD.out.kx h
   ·omega
  ·rintro(h|h)
   ·exact HWD.out.km h
   ·omega
  ·rintro(h|h)
   ·exact HWD.out.kc h
   ·omega
  ·rintro b (h|h)
   ·have:=Hnwc.out b h;omega
   ·exact h.2)
 go_region_held3 (fun w'=>(d25_20 w' X (.pointer (some ⟨m,0,none⟩)) (.slice A9 segs'.length c9) (I t') (J v') (I x0) (I x1) (I x2) (I x3) (I x4) (I x5) (.slice A3 cs'.length c3) (.slice A4 segs'.length c4) (I t') (J v') (I x0) (I x1) (I x2) (I x3) (I x4) (I x5))) (go_keep)
  (first
   |(go_at_call 27;refine(HA1.out _ ?_).mono ?_;(focus(repeat(first|with_reducible exact Keeps.refl _ _|with_reducible refine Keeps.drew ?_|with_reducible refine Keeps.drewN ?_ _)));rintro e wb ⟨rfl,HB1,⟨q0,q1,q2,q3,q4,q5,q6,q7,q8,q9,q10,q11,q12,q13,q14,q15,q16,q17,q18,q19⟩⟩)
   |(go_at_call 20;refine(HA2.out _ ?_).mono ?_;(focus(repeat(first|with_reducible exact HB1.out|with_reducible refine Keeps.drew ?_|with_reducible refine Keeps.drewN ?_ _)));rintro e wb2 ⟨nb,rfl,HB2,⟨q0,q1,q2,q3,q4,q5,q6,q7,q8,q9,q10,q11,q12,q13,q14,q15,q16,q17,q18,q19⟩⟩)
   |(go_at_call 26;refine(HA3.out _ _ ?_ ?_).mono ?_;(focus(repeat(first|with_reducible exact HB2.out.1|with_reducible refine Blk.drew ?_)));(focus(repeat(first|with_reducible exact HB2.out.2|with_reducible refine Keeps.drew ?_|with_reducible refine Keeps.drewN ?_ _)));rintro e wb3 ⟨rfl,HB3,⟨q0,q1,q2,q3,q4,q5,q6,q7,q8,q9,q10,q11,q12,q13,q14,q15,q16,q17,q18,q19⟩⟩))
 all_goals
  go_wp2_with fail
  exact hR'.out _ _ ⟨rfl,HFIN.out _ (by(repeat(first|with_reducible exact HB3.out|with_reducible refine Keeps.drew ?_|with_reducible refine Keeps.drewN ?_ _)))⟩):p:=h
theorem c512 (h:p:=by
 have HA1:=hid (show∀wa,Keeps (· <w14.heap.size) w14 wa→Z 27 #[.agg #[.slice SA segs'.length sc,I t',J v',I x0,I x1,I x2,I x3,I x4,I x5],.agg #[.slice A4 segs'.length c4,I t',J v',I x0,I x1,I x2,I x3,I x4,I x5]] wa fun e w'=>e= .returned (.bool true)∧Hid (Keeps (· <w14.heap.size) w14 w')∧(d25_20 w' X (.pointer (some ⟨m,0,none⟩)) (.slice SA segs'.length sc) (I t') (J v') (I x0) (I x1) (I x2) (I x3) (I x4) (I x5) (.slice A3 cs'.length c3) (.slice A4 segs'.length c4) (I t') (J v') (I x0) (I x1) (I x2) (I x3) (I x4) (I x5))from fun wa h1=>by
  refine(ref12_same segs' t' v' x0 x1 x2 x3 x4 x5 (A:=SA) (cp:=sc) (A2:=A4) (cp2:=c4) wa (· <w14.heap.size) (fun b hb=>by have:=h1.size;omega) (hsAl.keep h1 fun b hb=>hb) (hf2l.keep h1 fun b hb=>hb) hns').mono ?_
  rintro e w' ⟨rfl,h4⟩;have h9:=h1.trans (h4.mono fun b hb=>by have:=h1.size;omega)
  exact⟨rfl,h9,HSS.out _ h9⟩)
 have HA2:=hid (show∀wa,Keeps (· <w14.heap.size) w14 wa→Z 20 #[.pointer (some ⟨m,0,none⟩)] wa fun e w'=>∃nb,e= .returned (.slice (some ⟨nb,0,none⟩) cs'.length cs'.length)∧Hid (Blk w' nb (cs'.map (Value.int .u32))∧Keeps (· <w14.heap.size) w14 w')∧(d25_20 w' X (.pointer (some ⟨m,0,none⟩)) (.slice SA segs'.length sc) (I t') (J v') (I x0) (I x1) (I x2) (I x3) (I x4) (I x5) (.slice A3 cs'.length c3) (.slice A4 segs'.length c4) (I t') (J v') (I x0) (I x1) (I x2) (I x3) (I x4) (I x5))from fun wa h1=>by
  refine(mem_cells (hm14.keep h1 hm14.obj.lt hm14.cells.lt)).mono ?_;rintro e w' ⟨rfl,h3,h4⟩;rw[Q4.out]at h3 ⊢;have h9:=h1.trans (h4.mono fun b hb=>by have:=h1.size;omega)
  exact⟨_,rfl,⟨h3,h9⟩,HSS.out _ h9⟩)
 have HA3:=hid (show∀wa nb,Blk wa nb (cs'.map (Value.int .u32))→Keeps (· <w14.heap.size) w14 wa→Z 26 #[.slice (some ⟨nb,0,none⟩) cs'.length cs'.length,.slice A3 cs'.length c3] wa fun e w'=>e= .returned (.bool true)∧Hid (Keeps (· <w14.heap.size) w14 w')∧(d25_20 w' X (.pointer (some ⟨m,0,none⟩)) (.slice SA segs'.length sc) (I t') (J v') (I x0) (I x1) (I x2) (I x3) (I x4) (I x5) (.slice A3 cs'.length c3) (.slice A4 segs'.length c4) (I t') (J v') (I x0) (I x1) (I x2) (I x3) (I x4) (I x5))from fun wa nb h0 h1=>by
  have hcm:cs'.length≤maxLen:=HCM.out;have h7:=SlAt.of_blk (K:=fun b=>b<wa.heap.size) h0 h0.lt (by rw[List.length_map];exact hcm)
  rw[List.length_map]at h7;refine(same_any (K:=fun b=>b<wa.heap.size) h7 ((hf1l.keep h1 fun b hb=>hb).mono fun b hb=>by have:=h1.size;show b<wa.heap.size;omega)).mono ?_
  rintro e w' ⟨rfl,nn,rfl⟩;have h9:=h1.drewN nn;exact⟨by rw[decide_eq_true rfl],h9,HSS.out _ h9⟩)
 have HSA:=hid hsA;have HF1:=hid hf1;have HF2:=hid hf2;have HM14:=hid hm14;have HK14:=hid hkw4;have HBY:=hid hby;clear hsA hf1 hf2 hm14 hkw4 hby hsAl hf1l hf2l;have HFIN:=hid (show∀WZ,Keeps (· <w14.heap.size) w14 WZ→(∃st',Wd w0 WZ (fun b=>K b∨(B≤b∧b<WZ.heap.size)) X m c C cs' ⟨segs',t',v',⟨x0,x1,x2,x3,x4,x5⟩⟩ st'∧(tr.wr cs=0→st'=st))∧Keeps (fun b=>b<B∧b≠X∧b≠m∧b≠c) w WZ from fun WZ hz=>by
  have hsz:=hz.size;have hl14:=HK14.out.size;have big:Keeps (fun b=>b<B∧b≠X∧b≠m∧b≠c) w WZ:=HK14.out.trans (hz.mono fun b hb=>by omega)
  have hKn:∀b,K b→b<B∧b≠X∧b≠m∧b≠c:=fun b hb=>⟨Hnwc.out b hb,fun e=>HWD.out.kx (e▸hb),fun e=>HWD.out.km (e▸hb),fun e=>HWD.out.kc (e▸hb)⟩;have hmB:m<B:=by have:=HM.out.obj.lt;omega
  have hcB:c<B:=by have:=HM.out.cells.lt;omega
  refine⟨⟨s'.m.stores,⟨⟨SA,sc,A3,c3,A4,c4,HBY.out.keep hz HBY.out.lt,?_,?_,?_⟩,⟨s'.m,HM14.out.keep hz HM14.out.obj.lt HM14.out.cells.lt,Q4.out,rfl⟩,?_,?_,?_,?_,HWD.out.xm,HWD.out.xc,fun b hb=>Or.inl (HWD.out.k0 b hb),HWD.out.kp.trans (big.mono fun b hb=>hKn b (HWD.out.k0 b hb))⟩,Hst9.out⟩,big⟩
  ·exact c111
  ·exact c112
  ·exact c113
  ·rintro(h|h)
   ·exact HWD.out.kx h
   ·omega
  ·rintro(h|h)
   ·exact HWD.out.km h
   ·omega
  ·rintro(h|h)
   ·exact HWD.out.kc h
   ·omega
  ·rintro b (h|h)
   ·have:=Hnwc.out b h;omega
   ·exact h.2)
 go_region_held3 (fun w'=>(d25_20 w' X (.pointer (some ⟨m,0,none⟩)) (.slice SA segs'.length sc) (I t') (J v') (I x0) (I x1) (I x2) (I x3) (I x4) (I x5) (.slice A3 cs'.length c3) (.slice A4 segs'.length c4) (I t') (J v') (I x0) (I x1) (I x2) (I x3) (I x4) (I x5))) (go_keep)
  (first
   |(go_at_call 27;refine(HA1.out _ ?_).mono ?_;(focus(repeat(first|with_reducible exact Keeps.refl _ _|with_reducible refine Keeps.drew ?_|with_reducible refine Keeps.drewN ?_ _)));rintro e wb ⟨rfl,HB1,⟨q0,q1,q2,q3,q4,q5,q6,q7,q8,q9,q10,q11,q12,q13,q14,q15,q16,q17,q18,q19⟩⟩)
   |(go_at_call 20;refine(HA2.out _ ?_).mono ?_;(focus(repeat(first|with_reducible exact HB1.out|with_reducible refine Keeps.drew ?_|with_reducible refine Keeps.drewN ?_ _)));rintro e wb2 ⟨nb,rfl,HB2,⟨q0,q1,q2,q3,q4,q5,q6,q7,q8,q9,q10,q11,q12,q13,q14,q15,q16,q17,q18,q19⟩⟩)
   |(go_at_call 26;refine(HA3.out _ _ ?_ ?_).mono ?_;(focus(repeat(first|with_reducible exact HB2.out.1|with_reducible refine Blk.drew ?_)));(focus(repeat(first|with_reducible exact HB2.out.2|with_reducible refine Keeps.drew ?_|with_reducible refine Keeps.drewN ?_ _)));rintro e wb3 ⟨rfl,HB3,⟨q0,q1,q2,q3,q4,q5,q6,q7,q8,q9,q10,q11,q12,q13,q14,q15,q16,q17,q18,q19⟩⟩))
 all_goals
  go_wp2_with fail
  exact hR'.out _ _ ⟨rfl,HFIN.out _ (by(repeat(first|with_reducible exact HB3.out|with_reducible refine Keeps.drew ?_|with_reducible refine Keeps.drewN ?_ _)))⟩):p:=h
theorem c513 (h:p:=by
 have hst:=hm.set 0 (I (x0+n0));have hkn:Keeps (· ≠MB) wr (wr.setCell ⟨MB,0,none⟩ (I (x0+n0))):=(Keeps.refl _ _).setCell (p:=⟨MB,0,none⟩) (fun h=>h rfl) _;have zz153:=PLift.up @c731;exact c730):p:=h
theorem c514 (h:p:=by
 have zz58:=PLift.up @c335;exact c334):p:=h
theorem c515 (h:p:=by
 have zz148:=PLift.up @c703;exact c701):p:=h
theorem c516 (h:p:=by
 have hst:=hm.set 1 (I (x1+n1));have hkn:Keeps (· ≠MB) wr (wr.setCell ⟨MB,1,none⟩ (I (x1+n1))):=(Keeps.refl _ _).setCell (p:=⟨MB,1,none⟩) (fun h=>h rfl) _;have zz153:=PLift.up @c732;exact c730):p:=h
theorem c517 (h:p:=by
 have zz58:=PLift.up @c336;exact c334):p:=h
theorem c518 (h:p:=by
 have zz148:=PLift.up @c704;exact c701):p:=h
theorem c519 (h:p:=by
 have hst:=hm.set 2 (I (x2+n2));have hkn:Keeps (· ≠MB) wr (wr.setCell ⟨MB,2,none⟩ (I (x2+n2))):=(Keeps.refl _ _).setCell (p:=⟨MB,2,none⟩) (fun h=>h rfl) _;have zz153:=PLift.up @c733;exact c730):p:=h
theorem c520 (h:p:=by
 have zz58:=PLift.up @c337;exact c334):p:=h
theorem c521 (h:p:=by
 have zz148:=PLift.up @c705;exact c701):p:=h
theorem c522 (h:p:=by
 have hst:=hm.set 3 (I (x3+n3));have hkn:Keeps (· ≠MB) wr (wr.setCell ⟨MB,3,none⟩ (I (x3+n3))):=(Keeps.refl _ _).setCell (p:=⟨MB,3,none⟩) (fun h=>h rfl) _;have zz153:=PLift.up @c734;exact c730):p:=h
theorem c523 (h:p:=by
 have zz58:=PLift.up @c338;exact c334):p:=h
theorem c524 (h:p:=by
 have zz148:=PLift.up @c706;exact c701):p:=h
theorem c525 (h:p:=by
 have hst:=hm.set 5 (I (x5+n5));have hkn:Keeps (· ≠MB) wr (wr.setCell ⟨MB,5,none⟩ (I (x5+n5))):=(Keeps.refl _ _).setCell (p:=⟨MB,5,none⟩) (fun h=>h rfl) _;have zz153:=PLift.up @c735;exact c730):p:=h
theorem c526 (h:p:=by
 have zz58:=PLift.up @c340;exact c334):p:=h
theorem c527 (h:p:=by
 have zz148:=PLift.up @c707;exact c701):p:=h
theorem c528 (h:p:=by
 have zz151:=PLift.up @c717;exact c715):p:=h
theorem c529 (h:p:=by
 refine bodyPost_ret (v:= .tuple #[I (b0+u0),.agg #[I (u0+n),I u1,I u2,I u3,I u4,I u5],I 0]) ?_ rfl ?_
 ·exact c118
 ·exact c123):p:=h
theorem c530 (h:p:=by
 refine bodyPost_ret (v:= .tuple #[I (b0+u0),.agg #[I (u0+n),I u1,I u2,I u3,I u4,I u5],I 0]) ?_ rfl ?_
 ·exact c103
 ·exact c123):p:=h
theorem c531 (h:p:=by
 have zz151:=PLift.up @c718;exact c715):p:=h
theorem c532 (h:p:=by
 refine bodyPost_ret (v:= .tuple #[I (b1+u1),.agg #[I u0,I (u1+n),I u2,I u3,I u4,I u5],I 0]) ?_ rfl ?_
 ·exact c118
 ·exact c123):p:=h
theorem c533 (h:p:=by
 refine bodyPost_ret (v:= .tuple #[I (b1+u1),.agg #[I u0,I (u1+n),I u2,I u3,I u4,I u5],I 0]) ?_ rfl ?_
 ·exact c103
 ·exact c123):p:=h
theorem c534 (h:p:=by
 have zz151:=PLift.up @c719;exact c715):p:=h
theorem c535 (h:p:=by
 refine bodyPost_ret (v:= .tuple #[I (b2+u2),.agg #[I u0,I u1,I (u2+n),I u3,I u4,I u5],I 0]) ?_ rfl ?_
 ·exact c118
 ·exact c123):p:=h
theorem c536 (h:p:=by
 refine bodyPost_ret (v:= .tuple #[I (b2+u2),.agg #[I u0,I u1,I (u2+n),I u3,I u4,I u5],I 0]) ?_ rfl ?_
 ·exact c103
 ·exact c123):p:=h
theorem c537 (h:p:=by
 have zz151:=PLift.up @c720;exact c715):p:=h
theorem c538 (h:p:=by
 refine bodyPost_ret (v:= .tuple #[I (b3+u3),.agg #[I u0,I u1,I u2,I (u3+n),I u4,I u5],I 0]) ?_ rfl ?_
 ·exact c118
 ·exact c123):p:=h
theorem c539 (h:p:=by
 refine bodyPost_ret (v:= .tuple #[I (b3+u3),.agg #[I u0,I u1,I u2,I (u3+n),I u4,I u5],I 0]) ?_ rfl ?_
 ·exact c103
 ·exact c123):p:=h
theorem c540 (h:p:=by
 have zz151:=PLift.up @c721;exact c715):p:=h
theorem c541 (h:p:=by
 refine bodyPost_ret (v:= .tuple #[I (b4+u4),.agg #[I u0,I u1,I u2,I u3,I (u4+n),I u5],I 0]) ?_ rfl ?_
 ·exact c118
 ·exact c123):p:=h
theorem c542 (h:p:=by
 refine bodyPost_ret (v:= .tuple #[I (b4+u4),.agg #[I u0,I u1,I u2,I u3,I (u4+n),I u5],I 0]) ?_ rfl ?_
 ·exact c103
 ·exact c123):p:=h
theorem c543 (h:p:=by
 have hp:Blk wr (B+1+1) [I (3),I (3+s0*4),I (3+s0*4+s1*16),I (3+s0*4+s1*16+s2*64),I (3+s0*4+s1*16+s2*64+s3*256),I (3+s0*4+s1*16+s2*64+s3*256+book),I (s0*4),I (s1*16),I (s2*64),I (s3*256),I (book),I (room),I (3+s0*4+s1*16+s2*64+s3*256+book+room),I 1,I 0]:=HP.out;obtain⟨p0,p1,p2,p3,p4,p5,p6,p7,p8,p9,p10,p11,p12,p13,p14⟩:=hp.c15
 exact zz106.down):p:=h
theorem c544 (h:p:=by
 have qd:decide (3+s0*4+s1*16+s2*64+s3*256+book+room>65536)=true:=decide_eq_true (by omega)
 have qd2:decide (65536<3+s0*4+s1*16+s2*64+s3*256+book+room)=true:=decide_eq_true (by omega)
 have zz137:=PLift.up @c663;exact c661):p:=h
theorem c545 (h:p:=by
 have qd:decide (3+s0*4+s1*16+s2*64+s3*256+book+room>65536)=false:=decide_eq_false (by omega)
 have qd2:decide (65536<3+s0*4+s1*16+s2*64+s3*256+book+room)=false:=decide_eq_false (by omega)
 have hc:=HC.out;obtain⟨c0,c1,c2,c3,c4,c5,c6,c7,c8,c9⟩:=hc.c10;clear hc hp
 go_wp2_with fail
 clear p0 p1 p2 p3 p4 p5 p6 p7 p8 p9 p10 p11 p12 p13 p14 qd qd2 c0 c1 c2 c3 c4 c5 c6 c7 c8 c9
 go_loopw[] (fun wx=>∃(v:Int),SlotsAt terms v∧Hid (Blk wx B [I docs,I terms,I s0,I s1,I s2,I s3,I book,I room,kk,bb])∧Hid (Blk wx (B+1) [I 0,I 0,I 0,I 0,I 0,I 0,I 0,I 0,I 0,I 0,I 0,I 0,I 0,I 0,I 0])∧Blk wx (B+1+1) [I (3),I (3+s0*4),I (3+s0*4+s1*16),I (3+s0*4+s1*16+s2*64),I (3+s0*4+s1*16+s2*64+s3*256),I (3+s0*4+s1*16+s2*64+s3*256+book),I (s0*4),I (s1*16),I (s2*64),I (s3*256),I (book),I (room),I (3+s0*4+s1*16+s2*64+s3*256+book+room),I v,I 0]∧Hid (Keeps (· <B) w wx)) (fun wx=>1100-slotOf (B+1+1) wx)
 case atStart=>exact⟨1,Or.inl (Or.inl rfl),HC,HZ,HP.out,HK⟩
 case round=>
  clear HC HZ HP HK
  rename World=>wy
  obtain⟨v,hsv,HC,HZ,hp,HK⟩:=hrel;have hvb:=slots_bd hsv;obtain⟨hv0,hv1⟩:=hvb;have hc:=HC.out;obtain⟨c0,c1,c2,c3,c4,c5,c6,c7,c8,c9⟩:=hc.c10;clear hc;have hpp:=hp;obtain⟨p0,p1,p2,p3,p4,p5,p6,p7,p8,p9,p10,p11,p12,p13,p14⟩:=hpp.c15;have f13:=hp.free 13;have f14:=hp.free 14;clear hpp
  by_cases hvt:v≤terms
  ·have hst:=hp.set 13 (I (v*2));have hst:Blk (wy.setCell ⟨B+1+1,13,none⟩ (I (v*2))) (B+1+1) [I (3),I (3+s0*4),I (3+s0*4+s1*16),I (3+s0*4+s1*16+s2*64),I (3+s0*4+s1*16+s2*64+s3*256),I (3+s0*4+s1*16+s2*64+s3*256+book),I (s0*4),I (s1*16),I (s2*64),I (s3*256),I (book),I (room),I (3+s0*4+s1*16+s2*64+s3*256+book+room),I (v*2),I 0]:=hst
   have hs2:=slots_next hsv hvt (by omega)
   have hso:slotOf (B+1+1) wy=v.toNat:=by unfold slotOf;rw[p13]
   have hso2:slotOf (B+1+1) (wy.setCell ⟨B+1+1,13,none⟩ (I (v*2)))=(v*2).toNat:=by unfold slotOf;rw[show(wy.setCell ⟨B+1+1,13,none⟩ (I (v*2))).cell? ⟨B+1+1,13,none⟩=some (I (v*2))from hst.cell 13]
   have hC2:=HC.out.set_ne (a:=⟨B+1+1,13,none⟩) (I (v*2)) (by show B≠B+1+1;omega)
   have hZ2:=HZ.out.set_ne (a:=⟨B+1+1,13,none⟩) (I (v*2)) (by show B+1≠B+1+1;omega)
   have hkk:=HK.out.setCell (p:=⟨B+1+1,13,none⟩) (nb2 B) (I (v*2));clear hp;have Hst:=hid hst;have Hs2:=hid hs2;have Hso:=hid hso;have Hso2:=hid hso2;have Hkk:=hid hkk;have HC2:=hid hC2;have HZ2:=hid hZ2;clear hst hs2 hso hso2 hkk hC2 hZ2
   go_wp2_with fail
   go_roundw
   case rel=>exact⟨v*2,Hs2.out,HC2,HZ2,Hst.out,Hkk⟩
   case measure=>(rw[Hso.out,Hso2.out];omega)
  ·have hw1:IntKind.i64.wrap (4*docs)=4*docs:=IntWalk.i64_in _ (by omega)
   have hw2:IntKind.i64.wrap (1+4*docs)=1+4*docs:=IntWalk.i64_in _ (by omega)
   have hw3:IntKind.i64.wrap (1+4*docs+v)=1+4*docs+v:=IntWalk.i64_in _ (by omega)
   have hst:=hp.set 14 (I (1+4*docs+v));have hst:Blk (wy.setCell ⟨B+1+1,14,none⟩ (I (1+4*docs+v))) (B+1+1) [I (3),I (3+s0*4),I (3+s0*4+s1*16),I (3+s0*4+s1*16+s2*64),I (3+s0*4+s1*16+s2*64+s3*256),I (3+s0*4+s1*16+s2*64+s3*256+book),I (s0*4),I (s1*16),I (s2*64),I (s3*256),I (book),I (room),I (3+s0*4+s1*16+s2*64+s3*256+book+room),I v,I (1+4*docs+v)]:=hst
   have hZ2:=HZ.out.set_ne (a:=⟨B+1+1,14,none⟩) (I (1+4*docs+v)) (by show B+1≠B+1+1;omega)
   have hkk:=HK.out.setCell (p:=⟨B+1+1,14,none⟩) (nb2 B) (I (1+4*docs+v));clear hp;have zz137:=PLift.up @c664;exact c661):p:=h
theorem c546 (h:p:=by
 have HRQ:=hid hres;have gl:((lf:Int)==0)=true:=by simp[hl0]
 have hbk:=hbd k' hk';have hszb:=szK_bd k';have HBD:=hid (show∀j,j≤3→0≤(o.up k' (szK k')).uK j∧(o.up k' (szK k')).uK j+256*m≤10000000 from by
  intro j hj;have:=hbd j hj;rw[uK_up hk' hj]
  split<;>omega)
 have hcases:k'=0∨k'=1∨k'=2∨k'=3:=by omega
 have HLT:=hid hlt;clear hres hbd hKO HI hk' him hl0 hlf;exact zz107.down):p:=h
theorem c547 (h:p:=by
 rcases hcases with rfl|rfl|rfl|rfl
 ·obtain⟨z0,z1,z2,z3,z4,z5⟩:=hO.c6;have zz28:=PLift.up @c230;exact c229
 ·obtain⟨z0,z1,z2,z3,z4,z5⟩:=hO.c6;have zz26:=PLift.up @c224;exact c223
 ·obtain⟨z0,z1,z2,z3,z4,z5⟩:=hO.c6;have zz27:=PLift.up @c227;exact c226
 ·obtain⟨z0,z1,z2,z3,z4,z5⟩:=hO.c6;have zz25:=PLift.up @c221;exact c220):p:=h
theorem c548 (h:p:=by
 rcases hcases with rfl|rfl|rfl|rfl
 ·obtain⟨z0,z1,z2,z3,z4,z5⟩:=hO.c6;have zz28:=PLift.up @c231;exact c229
 ·obtain⟨z0,z1,z2,z3,z4,z5⟩:=hO.c6;have zz26:=PLift.up @c225;exact c223
 ·obtain⟨z0,z1,z2,z3,z4,z5⟩:=hO.c6;have zz27:=PLift.up @c228;exact c226
 ·obtain⟨z0,z1,z2,z3,z4,z5⟩:=hO.c6;have zz25:=PLift.up @c222;exact c220):p:=h
theorem c549 (h:p:=by
 obtain⟨hO,hKO,-,-⟩:=HI.out;have hD1:=HB1.out.keep hKO ⟨HB1.out.lt,by omega⟩
 have hkf:Keeps (· <B) w wr:=Hkw.out.trans (hKO.mono fun b hb=>by have:=HB1.out.lt;constructor<;>omega)
 have Hkf:=hid hkf;have Hfin:=hid hfin;clear hkf hfin;obtain⟨d0,d1,d2,d3,d4,d5⟩:=hD1.c6;obtain⟨z0,z1,z2,z3,z4,z5⟩:=hO.c6;have f1:=hD1.free;clear HI hKO
 go_wp2_with fail
 exact zz108.down):p:=h
theorem c550 (h:p:=by
 refine bp_gen (fun W=>Blk W (B+1) [I o.a0,I o.a1,I o.a2,I o.a3,I o.a4,I o.a5]∧Keeps (· <B) w W) ⟨?_,?_⟩ ?_
 ·first|with_reducible exact Blk.set6 hD1 _ _ _ _ _ _ (by simp)|with_reducible exact(Blk.set6 hD1 _ _ _ _ _ _ (by simp)).drew
 ·exact c50
 clear hD1 hO d0 d1 d2 d3 d4 d5 z0 z1 z2 z3 z4 z5 f1;rintro W2 ⟨g1,g2⟩;obtain⟨d0,d1,d2,d3,d4,d5⟩:=g1.c6;exact zz23.down):p:=h
theorem c551 (h:p:=by
 refine bp_gen (fun W=>Blk W (B+1) [I o.a0,I o.a1,I o.a2,I o.a3,I o.a4,I o.a5]∧Keeps (· <B) w W) ⟨?_,?_⟩ ?_
 ·exact c47
 ·exact c50
 clear hD1 hO d0 d1 d2 d3 d4 d5 z0 z1 z2 z3 z4 z5 f1;rintro W2 ⟨g1,g2⟩;obtain⟨d0,d1,d2,d3,d4,d5⟩:=g1.c6;exact zz29.down):p:=h
theorem c552 (h:p:=by
 have zz165:=PLift.up @c773;exact c771):p:=h
theorem c553 (h:p:=by
 have hlay:∀W',PTab W'→Z 41 #[.agg cf.list.toArray] W' fun e w'=>e= .returned (.tuple #[PlanM.zero.val,I 1])∧Keeps (· <W'.heap.size) W' w':=fun W' hT'=>(hlay W' hT').mono fun e w' ⟨h1,h2⟩=>⟨(h1.resolve_left fun x=>hcf x.1).2,h2⟩;generalize PlanM.zero=p at*;rw[hcli]at hlay ⊢;have Hlay:=hid hlay;have HT:=hid hT;have Hcli:=hid hcli;clear hlay hT hcli;clear hcfe hcf;have zz24:=PLift.up @c218
 exact c217):p:=h
theorem c554 (h:p:=by
 have hlay:∀W',PTab W'→Z 41 #[.agg cf.list.toArray] W' fun e w'=>e= .returned (.tuple #[cf.plan.val,I 0])∧Keeps (· <W'.heap.size) W' w':=fun W' hT'=>(hlay W' hT').mono fun e w' ⟨h1,h2⟩=>⟨(h1.resolve_right fun x=>x.1 hcf).2,h2⟩;have hpf:=plan_facts hcf.1 hcf.2;generalize cf.plan=p at*;rw[hcli]at hlay ⊢;have Hlay:=hid hlay;have HT:=hid hT;have Hcli:=hid hcli;clear hlay hT hcli
 clear hcfe;have zz24:=PLift.up @c219;exact c217):p:=h
theorem c555 (h:p:=by
 have a0:=(World.cell?_of_block (a:=⟨b0,o0+i*3+0,none⟩) (HK.out.block b0 hkb)).trans (g1 0 _ rfl);have a1:=(World.cell?_of_block (a:=⟨b0,o0+i*3+1,none⟩) (HK.out.block b0 hkb)).trans (g1 1 _ rfl);have a2:=(World.cell?_of_block (a:=⟨b0,o0+i*3+2,none⟩) (HK.out.block b0 hkb)).trans (g1 2 _ rfl);simp only[Nat.add_zero]at a0;exact zz110.down):p:=h
theorem c556 (h:p:=by
 have hwl:=HR.out.lt;have hR1:=HR.out.more (.cells #[I x.addr,I x.docs,.bool x.sealed] 65);have hk1:=HK.out.alloc (fun b hb=>Nat.lt_of_lt_of_le (Hlt.out b hb) HK.out.size) (.cells #[I x.addr,I x.docs,.bool x.sealed] 65);have hB1:=Blk.new wr [I x.addr,I x.docs,.bool x.sealed] 65;have hBase:=fun W=>write_base x W (by unfold Small;omega)
 have hFind:=fun W (hW:RM W (fun b=>K b∨b=wr.heap.size) r m c s')=>table_find hW x.base id x.docs hbs (by omega) Hi.out
 obtain⟨xa,xd,xs⟩:=x;dsimp only at a0 a1 a2 hR1 hk1 hB1 hBase hFind hst hfr x0 x1 x2;generalize SegM.base ⟨xa,xd,xs⟩=bs at*;generalize (findT bs id xd 0).exec s'=fr at*;obtain⟨fv,fs⟩:=fr;dsimp only at hst hfr hFind;obtain⟨f0,f1⟩:=hfr;obtain⟨b00,b01⟩:=hbs;clear g1 hx hwl HR HT HK;have Hst:=hid hst;have HBase:=hid hBase;have HFind:=hid hFind;clear hst hBase hFind
 go_upto_region 4 with fail
 generalize wr.alloc (.cells #[I xa,I xd,.bool xs] 65)=W1 at*;have hBl:=hB1.lt;have hcs:∀W':World,Keeps (fun b=>K b∨b=wr.heap.size) W1 W'→(d0_3 W' wr.heap.size (I xa) (I xd) (.bool xs)):=fun W' hk=>by
  have h:=hB1.keep hk (Or.inr rfl);exact⟨h.cell 0,h.cell 1,h.cell 2⟩
 have HN1:=hid (show Z 31 #[.agg #[I xa,I xd,.bool xs]] W1.drew fun e w'=>e= .returned (I bs)∧Hid (RM w' (fun b=>K b∨b=wr.heap.size) r m c s'∧Keeps (fun b=>K b∨b=wr.heap.size) W1 w')∧(d0_3 w' wr.heap.size (I xa) (I xd) (.bool xs))from by
  refine(HBase.out W1.drew).mono ?_;rintro e w' ⟨rfl,g2⟩;have g3:=((Keeps.refl (· <W1.heap.size) _).drew).trans g2;have g4:Keeps (fun b=>K b∨b=wr.heap.size) W1 w':=g3.mono fun b hb=>by
   rcases hb with hb|rfl
   ·exact hR1.lt b (Or.inl hb)
   ·exact hBl
  exact⟨rfl,⟨hR1.below g3,g4⟩,hcs _ g4⟩)
 have HN2:=hid (show∀wa,Hid (RM wa (fun b=>K b∨b=wr.heap.size) r m c s'∧Keeps (fun b=>K b∨b=wr.heap.size) W1 wa)→Z 69 #[.pointer (some ⟨r,0,none⟩),I bs,I xd,J id] wa fun e w'=>e= .returned (I fv)∧Hid (RM w' (fun b=>K b∨b=wr.heap.size) r m c fs∧Keeps (fun b=>K b∨b=wr.heap.size) W1 w')∧(d0_3 w' wr.heap.size (I xa) (I xd) (.bool xs))from by
  intro wa hwa;refine(HFind.out wa hwa.out.1).mono ?_;rintro e w' ⟨rfl,g1,g2⟩;have g4:=hwa.out.2.trans g2;exact⟨rfl,⟨g1,g4⟩,hcs _ g4⟩)
 obtain⟨z0,z1,z2⟩:=hcs W1 (Keeps.refl _ _);have hfin:∀w',Keeps (fun b=>K b∨b=wr.heap.size) W1 w'→Keeps K w w':=fun w' hk=>hk1.trans (hk.mono fun b hb=>Or.inl hb);clear hcs hB1 hk1 hR1 a0 a1 a2;have Hfin:=hid hfin;clear hfin
 go_region_held3 (fun w'=>(d0_3 w' wr.heap.size (I xa) (I xd) (.bool xs))) (first|go_keep|(simp[*,World.cell?_setCell_other]))
  (first|(go_at_call 31;refine HN1.out.mono ?_;rintro e w1 ⟨rfl,HW,y0,y1,y2⟩)|(go_at_call 69;refine(HN2.out _ HW).mono ?_;rintro e w2 ⟨rfl,HW2,y3,y4,y5⟩))
 all_goals
  by_cases hfv:0≤fv
  ·have hres:=Hst.out;rw[if_pos hfv]at hres;clear Hst;have Hres:=hid hres;clear hres
   go_wp2_with fail
   exact hR'.out _ _ ⟨by first|(rw[Hres.out];done)|(rw[Hres.out];rfl),by rw[Hres.out];exact HW2.out.1.mono fun b hb=>Or.inl hb,Hfin.out _ HW2.out.2⟩
  ·have hres:=Hst.out;rw[if_neg hfv]at hres;have hRR:RM w2 K r m c fs:=HW2.out.1.mono fun b hb=>Or.inl hb;have hKK:=Hfin.out _ HW2.out.2;clear Hst;have Hres:=hid hres;have HRR:=hid hRR;have HKK:=hid hKK;clear hres hRR hKK
   go_wp2_with fail
   go_roundw
   case rel=>exact⟨i+1,fs,by go_num,by omega,Hres,HRR,HKK⟩
   case measure=>exact msA):p:=h
theorem c557 (h:p:=by
 have hex:=HX.out;rw[show toks.drop i=(tf,tt,tp)::toks.drop (i+1) by
  obtain⟨h9,h8⟩:=List.getElem?_eq_some_iff.1 hx;rw[List.drop_eq_getElem_cons h9,h8],termsT_cons]at hex
 dsimp only at hex;have hkey:=fun W=>pack_key tf tt ⟨tf0,tf1⟩ (by omega) W
 have hks:=keyB_size tf tt;clear g1 hx HX;have Hex:=hid hex;have Hkey:=hid hkey;clear hex hkey
 go_wp2_with fail
 have hwl:=HR.out.lt;have hkx:Keeps (· <wr.heap.size) wr (wr.alloc (.cells #[.int .u8 tf,.string tt,I tp] 128)):=(Keeps.refl _ _).alloc (fun b hb=>hb) _;refine(Hkey.out _).mono ?_;rintro e w1 ⟨ky,rfl,hky,hk1⟩;obtain rfl:=key_of ⟨tf0,tf1⟩ hky;have hk2:=hkx.trans (hk1.mono fun b hb=>Nat.lt_of_lt_of_le hb hkx.size);have hR1:=HR.out.below hk2;have hO1:TermOwn w1 K (.slice A' out.length cp') out:=⟨own_of_keep HO.out.1 hk2 (fun b hb=>hwl b (Or.inr hb)),HO.out.2⟩
 have hK1:=HK.out.trans (hk2.mono fun b hb=>hwl b (Or.inl hb));generalize keyB tf tt=key at*;clear hkx hk1 hk2 hwl hky HR HO HK a0 a1 a2 Hkey;have HR1:=hid hR1;have HO1:=hid hO1;have HK1:=hid hK1;clear hR1 hO1 hK1
 go_wp2_with fail
 go_loopw[28] (fun jv wx=>∃(j:Nat),jv=I (j:Int)∧j≤out.length∧Hid (∀j' t',j'<j→out[j']? =some t'→(t'.key.toList==key.toList)=false)∧w1=wx) (fun jv _=>out.length-(intOf jv).toNat)
 case atStart=>exact⟨0,rfl,Nat.zero_le _,hid (fun j' t' h=>absurd h (Nat.not_lt_zero _)),rfl⟩
 case round=>
  obtain⟨j,rfl,hj,HN,rfl⟩:=hrel
  by_cases hjl:j<out.length
  ·have hjlI:(j:Int)<(out.length:Int):=by omega
   obtain⟨t,hjt⟩:∃t,out[j]? =some t:=⟨_,List.getElem?_eq_getElem hjl⟩;obtain⟨g,rfl,gc⟩:=own_rec TermM.len4 HO1.out.1 hjt;have c0:=gc 0 _ (by decide) rfl
   have c3:=gc 3 _ (by decide) rfl
   simp only[Nat.add_zero]at c0;obtain⟨q0,q1⟩:=HC.out t (List.mem_of_getElem? hjt)
   cases hkk:(t.key.toList==key.toList)with
   |true=>
    have hix:=keyIx_at hjt hkk HN.out;have hnx:=Hex.out;rw[hix,hjt]at hnx;dsimp only at hnx;have hfz:=ownB_free HO1.out.1 (by omega) (j*4+3)
    have hO2:=own_recSet TermM.len4 HO1.out.1 (j:=3) (a':={ t with cnt:=t.cnt+1 }) (u:=I (t.cnt+1)) hjt (by decide) rfl
    have hR2:=HR1.out.setK (a:=⟨g,j*4+3,none⟩) (Or.inr rfl) (I (t.cnt+1));have hK2:=HK1.out.setCell (p:=⟨g,j*4+3,none⟩) (HO1.out.2 g rfl) (I (t.cnt+1));have hC2:∀t'∈out.set j { t with cnt:=t.cnt+1 },0≤t'.cnt∧t'.cnt≤(i+1:Nat):=fun t' ht'=>by
     rcases List.mem_or_eq_of_mem_set ht' with h|rfl
     ·have:=HC.out t' h;omega
     ·dsimp only;omega
    have hll:(out.set j { t with cnt:=t.cnt+1 }).length=out.length:=List.length_set ..
    have hon:=HO1.out.2;clear hix gc hjt HN Hex;have HR3:Hid (RM (w1.setCell ⟨g,j*4+3,none⟩ (I (t.cnt+1))) (fun b=>K b∨(Value.slice (some ⟨g,0,none⟩) (out.set j { t with cnt:=t.cnt+1 }).length cp').ownBlock=some b) r m c s'):=hid hR2
    have HO3:Hid (TermOwn (w1.setCell ⟨g,j*4+3,none⟩ (I (t.cnt+1))) K (.slice (some ⟨g,0,none⟩) (out.set j { t with cnt:=t.cnt+1 }).length cp') (out.set j { t with cnt:=t.cnt+1 })):=hid ⟨hO2,hon⟩
    generalize out.set j { t with cnt:=t.cnt+1 }=out2 at*
    clear hO2 hR2 hon HC;have HC2:=hid hC2;have Hnx:=hid hnx;have HK2:=hid hK2;clear hC2 hnx hK2
    go_wp2_with fail
    go_roundw
    case rel=>exact⟨i+1,s',out2,some ⟨g,0,none⟩,cp',by rw[hll],by go_num,by omega,by omega,HC2,Hnx,HR3,HO3,HK2⟩
    case measure=>exact msA
   |false=>
    have hn2:∀j' t',j'<j+1→out[j']? =some t'→(t'.key.toList==key.toList)=false:=fun j' t' hj' ht'=>by
     by_cases he:j'=j
     ·subst he;rw[hjt]at ht';injection ht' with ht';subst ht';exact hkk
     ·exact HN.out j' t' (by omega) ht'
    clear gc hjt HN;have Hn2:=hid hn2;clear hn2
    go_wp2_with fail
    go_roundw
    case rel=>exact⟨j+1,by go_num,by omega,Hn2,by first|trivial|rfl⟩
    case measure=>exact msA
  ·obtain rfl:j=out.length:=by omega
   have hjlI:¬(out.length:Int)<(out.length:Int):=by omega
   have hnx:=Hex.out;rw[keyIx_none HN.out,lookT_exec]at hnx;dsimp only at hnx;have hcall:=fun W K' (hW:RM W K' r m c s')=>Hfind.out W K' s' hW key (by omega)
   have hcall:∀W K',RM W K' r m c s'→Z 75 #[.pointer (some ⟨r,0,none⟩),I s0,I n,.string key] W fun e w'=>e= .returned (.tuple #[I ((findK s0 n key).exec s').1.1,I ((findK s0 n key).exec s').1.2])∧RM w' K' r m c ((findK s0 n key).exec s').2∧Keeps K' W w':=hcall;generalize (findK s0 n key).exec s'=fr at*;obtain⟨⟨rc,sl⟩,s1⟩:=fr;dsimp only at hnx hcall;have hal:Keeps (· <w1.heap.size) w1 (w1.alloc (.cells #[.string key,I 0,I 0,I 1] 154)):=(Keeps.refl _ _).alloc (fun b hb=>hb) _
   have hwl:=HR1.out.lt;have hR2:=HR1.out.more (.cells #[.string key,I 0,I 0,I 1] 154);have hO2:TermOwn (w1.alloc (.cells #[.string key,I 0,I 0,I 1] 154)) K (.slice A' out.length cp') out:=⟨own_of_keep HO1.out.1 hal (fun b hb=>hwl b (Or.inr hb)),HO1.out.2⟩;have hK2:=HK1.out.trans (hal.mono fun b hb=>hwl b (Or.inl hb));have hB2:=Blk.new w1 [.string key,I 0,I 0,I 1] 154;have hnb:¬K w1.heap.size:=fun hk=>Nat.lt_irrefl _ (hwl _ (Or.inl hk))
   have hob:∀b,(Value.slice A' out.length cp').ownBlock=some b→b≠w1.heap.size:=fun b hb e=>by
    subst e;exact Nat.lt_irrefl _ (hwl _ (Or.inr hb))
   clear hal HR1 HO1 HK1 HN hwl Hex;have Hcall:=hid hcall;have HR2:=hid hR2;have HO2:=hid hO2;have HK2:=hid hK2;have HB2:=hid hB2;have Hnx:=hid hnx;have Hnb:=hid hnb;have Hob:=hid hob;clear hcall hR2 hO2 hK2 hB2 hnx hnb hob
   go_wp2_with fail
   generalize hTB:w1.heap.size=tb at*;refine(Hcall.out _ _ HR2.out).mono ?_;rintro e w2 ⟨rfl,hR3,hk3⟩;have hB3:=HB2.out.keep hk3 (Or.inr rfl);have hO3:TermOwn w2 K (.slice A' out.length cp') out:=⟨own_of_keep HO2.out.1 hk3 (fun b hb=>Or.inl (Or.inr hb)),HO2.out.2⟩;have hK3:=HK2.out.trans (hk3.mono fun b hb=>Or.inl (Or.inl hb));have hB4:=hB3.set 1 (I rc);have hB4:Blk (w2.setCell ⟨tb,1,none⟩ (I rc)) tb [.string key,I rc,I 0,I 1]:=hB4
   have hR4:=hR3.setK (a:=⟨tb,1,none⟩) (Or.inr rfl) (I rc);have hO4:TermOwn (w2.setCell ⟨tb,1,none⟩ (I rc)) K (.slice A' out.length cp') out:=⟨ownsRow_setCell_other hO3.1 (fun e=>Hob.out _ e rfl) _,hO3.2⟩;have hK4:=hK3.setCell (p:=⟨tb,1,none⟩) Hnb.out (I rc);have fz1:=hB3.free 1;have fz2:=hB4.free 2;obtain⟨y0,y1,y2,y3⟩:=hB3.c4;clear hR3 hk3 hO3 hK3 hB3 HB2 HR2 HO2 HK2 Hcall
   have HB4:=hid hB4;have HR4:=hid hR4;have HO4:=hid hO4;have HK4:=hid hK4;clear hB4 hR4 hO4 hK4
   by_cases hrc:rc=0
   ·subst hrc;have hnx:=Hnx.out;rw[if_pos rfl]at hnx;clear Hnx;have Hnx:=hid hnx;clear hnx;obtain⟨i0,hi9,hz0,hz1,hz2⟩:=info_partsF Tryz.infoTerm
    go_wp2_with (at_builtin;go_must (refine wpList_append_x rfl _ _ 121 rfl 154 i0 (.agg #[.string ⟨#[]⟩,I 0,I 0,I 0]) 4 40 Tryz.underlying121 hi9 hz0 hz1 hz2 rfl (by decide) (.slice A' out.length cp') out.length (out.flatMap TermM.cells) rfl (HO4.out.1.alloc _) ⟨w2.heap.size,0,none⟩ 1 1 [.string key,I 0,I 0,I 1] rfl rfl ?_ ?_ ?_ ?_ ?_))
    ·intro jj u hj;rw[Addr.add_lit,Nat.zero_add];exact((Blk.new' _ [.string key,I 0,I 0,I 1] _ (by simp)).cell jj).trans hj
    ·intro u hu;simp at hu;rcases hu with rfl|rfl|rfl|rfl<;>rfl
    ·unfold maxLen;omega
    ·omega
    ·intro v' w6 hown' hgr hfr;obtain⟨A9,cp9,rfl⟩:=ownB_form hown';have hwl:=HR4.out.lt;have hal:=HR4.out.alloc (.cells #[.string key,I 0,I 0,I 1] 154);have zz44:=PLift.up @c285;exact c284
   ·have hrc':=hrc;clear hrc';have hf1:(rc !=0)=true:=by simpa using hrc
    have hnx:=Hnx.out;rw[if_neg hrc]at hnx;clear hrc Hnx;have hlu:=HR4.out.load_u32 rc;have htail:=fun W K' (hW:RM W K' r m c s1)=>dict_tail hW rc;generalize s1.load rc=ls at*;obtain⟨tl,s2⟩:=ls;dsimp only at hlu htail hnx;have Hnx:=hid hnx;have Htail:=hid htail;clear hnx htail
    go_wp2_with fail
    refine(Htail.out _ _ HR4.out).mono ?_;rintro e w3 ⟨rfl,hR5,hk5⟩;have hB5:=HB4.out.keep hk5 (Or.inr rfl);have hO5:TermOwn w3 K (.slice A' out.length cp') out:=⟨own_of_keep HO4.out.1 hk5 (fun b hb=>Or.inl (Or.inr hb)),HO4.out.2⟩;have hK5:=HK4.out.trans (hk5.mono fun b hb=>Or.inl (Or.inl hb));have hB6:=hB5.set 2 (I tl);have hB6:Blk (w3.setCell ⟨tb,2,none⟩ (I tl)) tb [.string key,I rc,I tl,I 1]:=hB6
    have hR6:=hR5.setK (a:=⟨tb,2,none⟩) (Or.inr rfl) (I tl);have hO6:TermOwn (w3.setCell ⟨tb,2,none⟩ (I tl)) K (.slice A' out.length cp') out:=⟨ownsRow_setCell_other hO5.1 (fun e=>Hob.out _ e rfl) _,hO5.2⟩;have hK6:=hK5.setCell (p:=⟨tb,2,none⟩) Hnb.out (I tl);have fz3:=hB5.free 2;clear y0 y1 y2 y3 fz2 fz1;obtain⟨y0,y1,y2,y3⟩:=hB5.c4;clear hB5 hR5 hO5 hK5 hk5 HR4 HO4 HK4 HB4
    have HR4:=hid hR6;have HO4:=hid hO6;have HK4:=hid hK6;have HB6:=hid hB6;clear hR6 hO6 hK6 hB6;obtain⟨i0,hi9,hz0,hz1,hz2⟩:=info_partsF Tryz.infoTerm
    go_wp2_with (at_builtin;go_must (refine wpList_append_x rfl _ _ 121 rfl 154 i0 (.agg #[.string ⟨#[]⟩,I 0,I 0,I 0]) 4 40 Tryz.underlying121 hi9 hz0 hz1 hz2 rfl (by decide) (.slice A' out.length cp') out.length (out.flatMap TermM.cells) rfl (HO4.out.1.alloc _) ⟨w3.heap.size,0,none⟩ 1 1 [.string key,I rc,I tl,I 1] rfl rfl ?_ ?_ ?_ ?_ ?_))
    ·intro jj u hj;rw[Addr.add_lit,Nat.zero_add];exact((Blk.new' _ [.string key,I rc,I tl,I 1] _ (by simp)).cell jj).trans hj
    ·intro u hu;simp at hu;rcases hu with rfl|rfl|rfl|rfl<;>rfl
    ·unfold maxLen;omega
    ·omega
    ·intro v' w6 hown' hgr hfr;obtain⟨A9,cp9,rfl⟩:=ownB_form hown';have hwl:=HR4.out.lt;have hal:=HR4.out.alloc (.cells #[.string key,I rc,I tl,I 1] 154);have zz44:=PLift.up @c286;exact c284):p:=h
theorem c558 (h:p:=by
 clear hset hO hbk hszb
 go_wp2_with fail
 refine wp_region_still_tail 7 (by kernel_rfl) (by kernel_rfl) ?_
 simp only[List.take_succ_cons,List.take_zero,List.drop_succ_cons,List.drop_zero]
 repeat(first|still_step|still_call hsl)
 refine wpStill_nil ?_;change wpList _ _ _ _ _ wr.drew;clear hsl
 go_wp2_with fail
 clear z0 z1 z2 z3 z4 z5 f1;exact zz111.down):p:=h
theorem c559 (h:p:=by
 exact zz25.down):p:=h
theorem c560 (h:p:=by
 exact zz26.down):p:=h
theorem c561 (h:p:=by
 exact zz27.down):p:=h
theorem c562 (h:p:=by
 exact zz28.down):p:=h
theorem c563 (h:p:=by
 have zz145:=PLift.up @c690;exact c688):p:=h
theorem c564 (h:p:=by
 have zz17:=PLift.up @c197;exact c194):p:=h
theorem c565 (h:p:=by
 obtain⟨o2a,o2b⟩:=o2;have zz17:=PLift.up @c198;exact c194):p:=h
theorem c566 (h:p:=by
 simp only[baseC,szC,upto,Nat.lt_irrefl,Nat.not_lt_zero,if_true,if_false,Nat.zero_lt_succ,Nat.reduceLT]at*;obtain⟨d0,d1,d2,d3,d4,d5⟩:=hD0.c6;obtain⟨p0,p1,p2,p3,p4,p5,p6,p7,p8,p9,p10,p11,p12,p13,p14⟩:=hD1.c15;have f1:=hD1.free
 go_wp2_with fail
 exact zz113.down):p:=h
theorem c567 (h:p:=by
 exact c362):p:=h
theorem c568 (h:p:=by
 exact c361):p:=h
theorem c569 (h:p:=by
 exact c360):p:=h
theorem c570 (h:p:=by
 exact c359):p:=h
theorem c571 (h:p:=by
 exact c358):p:=h
theorem c572 (h:p:=by
 exact c357):p:=h
theorem c573 (h:p:=by
 have hd1:decide (n<1)=false:=by simpa using h1
 refine calls_hide fun R' hR'=>?_;unfold PlanM.val V6.val
 go_enter Tryz.func43,Tryz.ntmps43
 go_wp2_with fail
 go_quiet ((go_at_call 68;exact Calls.quiet_of_same (between_yes _ _ _ _ (by omega))))
 go_wp2_with fail
 exact zz114.down):p:=h
theorem c574 (h:p:=by
 have hw1:IntKind.i64.wrap (s4-u4)=s4-u4:=IntWalk.i64_in _ (by omega)
 have hd2:decide (s4-u4<n)=false:=by simp;omega
 go_quiet (fail)
 go_wp2_with fail
 have hw2:IntKind.i64.wrap (b4+u4)=b4+u4:=IntWalk.i64_in _ (by omega)
 have zz39:=PLift.up @c266;exact c265):p:=h
theorem c575 (h:p:=by
 have hw1:IntKind.i64.wrap (s0-u0)=s0-u0:=IntWalk.i64_in _ (by omega)
 have hd2:decide (s0-u0<n)=false:=by simp;omega
 go_quiet (fail)
 go_wp2_with fail
 have hw2:IntKind.i64.wrap (b0+u0)=b0+u0:=IntWalk.i64_in _ (by omega)
 have zz39:=PLift.up @c267;exact c265):p:=h
theorem c576 (h:p:=by
 have hw1:IntKind.i64.wrap (s1-u1)=s1-u1:=IntWalk.i64_in _ (by omega)
 have hd2:decide (s1-u1<n)=false:=by simp;omega
 go_quiet (fail)
 go_wp2_with fail
 have hw2:IntKind.i64.wrap (b1+u1)=b1+u1:=IntWalk.i64_in _ (by omega)
 have zz39:=PLift.up @c268;exact c265):p:=h
theorem c577 (h:p:=by
 have hw1:IntKind.i64.wrap (s2-u2)=s2-u2:=IntWalk.i64_in _ (by omega)
 have hd2:decide (s2-u2<n)=false:=by simp;omega
 go_quiet (fail)
 go_wp2_with fail
 have hw2:IntKind.i64.wrap (b2+u2)=b2+u2:=IntWalk.i64_in _ (by omega)
 have zz39:=PLift.up @c269;exact c265):p:=h
theorem c578 (h:p:=by
 have hw1:IntKind.i64.wrap (s3-u3)=s3-u3:=IntWalk.i64_in _ (by omega)
 have hd2:decide (s3-u3<n)=false:=by simp;omega
 go_quiet (fail)
 go_wp2_with fail
 have hw2:IntKind.i64.wrap (b3+u3)=b3+u3:=IntWalk.i64_in _ (by omega)
 have zz39:=PLift.up @c270;exact c265):p:=h
theorem c579 (h:p:=by
 have hw1:IntKind.i64.wrap (s5-u5)=s5-u5:=IntWalk.i64_in _ (by omega)
 have hd2:decide (s5-u5<n)=false:=by simp;omega
 go_quiet (fail)
 go_wp2_with fail
 have hw2:IntKind.i64.wrap (b5+u5)=b5+u5:=IntWalk.i64_in _ (by omega)
 have zz39:=PLift.up @c271;exact c265):p:=h
theorem c580 (h:p:=by
 exact zz45.down):p:=h
theorem c581 (h:p:=by
 have g1:decide (U<0)=false:=decide_eq_false (by omega)
 have g2:decide (M<0)=false:=decide_eq_false (by omega)
 have g3:decide (U>S)=false:=decide_eq_false (by omega)
 have g4:IntKind.i64.wrap (S-U)=S-U:=IntWalk.i64_in _ (by omega)
 exact zz115.down):p:=h
theorem c582 (h:p:=by
 by_cases hle:M≤S-U
 ·have g5:decide (S-U<M)=false:=decide_eq_false (by omega)
  have zz147:=PLift.up @c695;exact c694
 ·exact c9):p:=h
theorem c583 (h:p:=by
 by_cases hle:M≤S-U
 ·have g5:decide (S-U<M)=false:=decide_eq_false (by omega)
  have zz147:=PLift.up @c696;exact c694
 ·exact c9):p:=h
theorem c584 (h:p:=by
 by_cases hle:M≤S-U
 ·have g5:decide (S-U<M)=false:=decide_eq_false (by omega)
  have zz147:=PLift.up @c697;exact c694
 ·exact c9):p:=h
theorem c585 (h:p:=by
 by_cases hle:M≤S-U
 ·have g5:decide (S-U<M)=false:=decide_eq_false (by omega)
  have zz147:=PLift.up @c698;exact c694
 ·exact c9):p:=h
theorem c586 (h:p:=by
 by_cases hle:M≤S-U
 ·have g5:decide (S-U<M)=false:=decide_eq_false (by omega)
  have zz147:=PLift.up @c699;exact c694
 ·exact c9):p:=h
theorem c587 (h:p:=by
 by_cases hle:M≤S-U
 ·have g5:decide (S-U<M)=false:=decide_eq_false (by omega)
  have zz147:=PLift.up @c700;exact c694
 ·exact c9):p:=h
theorem c588 (h:p:=by
 have zz152:=PLift.up @c729;exact c722):p:=h
theorem c589 (h:p:=by
 have hdu:decide (u0<0)=false:=decide_eq_false (by omega)
 have hdv:decide (s0<u0)=false:=decide_eq_false (by omega)
 have hw1:IntKind.i64.wrap (s0-u0)=s0-u0:=IntWalk.i64_in _ (by omega)
 have hd2:decide (s0-u0<n)=false:=decide_eq_false (by omega)
 have hw2:IntKind.i64.wrap (b0+u0)=b0+u0:=IntWalk.i64_in _ (by omega)
 have hw3:IntKind.i64.wrap (u0+n)=u0+n:=IntWalk.i64_in _ (by omega)
 have zz38:=PLift.up @c260;exact c259):p:=h
theorem c590 (h:p:=by
 have hdu:decide (u1<0)=false:=decide_eq_false (by omega)
 have hdv:decide (s1<u1)=false:=decide_eq_false (by omega)
 have hw1:IntKind.i64.wrap (s1-u1)=s1-u1:=IntWalk.i64_in _ (by omega)
 have hd2:decide (s1-u1<n)=false:=decide_eq_false (by omega)
 have hw2:IntKind.i64.wrap (b1+u1)=b1+u1:=IntWalk.i64_in _ (by omega)
 have hw3:IntKind.i64.wrap (u1+n)=u1+n:=IntWalk.i64_in _ (by omega)
 have zz38:=PLift.up @c261;exact c259):p:=h
theorem c591 (h:p:=by
 have hdu:decide (u2<0)=false:=decide_eq_false (by omega)
 have hdv:decide (s2<u2)=false:=decide_eq_false (by omega)
 have hw1:IntKind.i64.wrap (s2-u2)=s2-u2:=IntWalk.i64_in _ (by omega)
 have hd2:decide (s2-u2<n)=false:=decide_eq_false (by omega)
 have hw2:IntKind.i64.wrap (b2+u2)=b2+u2:=IntWalk.i64_in _ (by omega)
 have hw3:IntKind.i64.wrap (u2+n)=u2+n:=IntWalk.i64_in _ (by omega)
 have zz38:=PLift.up @c262;exact c259):p:=h
theorem c592 (h:p:=by
 have hdu:decide (u3<0)=false:=decide_eq_false (by omega)
 have hdv:decide (s3<u3)=false:=decide_eq_false (by omega)
 have hw1:IntKind.i64.wrap (s3-u3)=s3-u3:=IntWalk.i64_in _ (by omega)
 have hd2:decide (s3-u3<n)=false:=decide_eq_false (by omega)
 have hw2:IntKind.i64.wrap (b3+u3)=b3+u3:=IntWalk.i64_in _ (by omega)
 have hw3:IntKind.i64.wrap (u3+n)=u3+n:=IntWalk.i64_in _ (by omega)
 have zz38:=PLift.up @c263;exact c259):p:=h
theorem c593 (h:p:=by
 have hdu:decide (u4<0)=false:=decide_eq_false (by omega)
 have hdv:decide (s4<u4)=false:=decide_eq_false (by omega)
 have hw1:IntKind.i64.wrap (s4-u4)=s4-u4:=IntWalk.i64_in _ (by omega)
 have hd2:decide (s4-u4<n)=false:=decide_eq_false (by omega)
 have hw2:IntKind.i64.wrap (b4+u4)=b4+u4:=IntWalk.i64_in _ (by omega)
 have hw3:IntKind.i64.wrap (u4+n)=u4+n:=IntWalk.i64_in _ (by omega)
 have zz38:=PLift.up @c264;exact c259):p:=h
theorem c594 (h:p:=by
 have Hd:=hid (fun W=>between_yes docs 1 64 W (by omega))
 have Ht:=hid (fun W=>between_yes terms 64 256 W (by omega))
 have Hk:=hid (fun W=>between_yes book 0 65536 W (by omega))
 exact zz117.down):p:=h
theorem c595 (h:p:=by
 have Hr:=hid (fun W=>between_no room 0 65536 W (by omega))
 clear h q0 q1 q2;have zz143:=PLift.up @c684;exact c682):p:=h
theorem c596 (h:p:=by
 have Hr:=hid (fun W=>between_yes room 0 65536 W (by omega))
 have zz17:=PLift.up @c195;exact c194):p:=h
theorem c597 (h:p:=by
 have Hr:=hid (fun W=>between_yes room 0 65536 W (by omega))
 obtain⟨o0a,o0b⟩:=o0;have zz17:=PLift.up @c196;exact c194):p:=h
theorem c598 (h:p:=by
 have hzb:(z:Int)≤255:=by omega
 have h192:192≤byteI s i∧byteI s i<248:=by omega
 have h128:128≤byteI s i:=by omega
 clear g1 g2 g3 hb hba;exact zz118.down):p:=h
theorem c599 (h:p:=by
 by_cases hsz:s.size-i<2
 ·have hszI:(s.size:Int)-(i:Int)<2:=by omega
  exact c419
 have hszI:¬(s.size:Int)-(i:Int)<2:=by omega
 have hsz2:i+2≤s.size:=by omega
 have Hk:=hid hk;have Hln:=hid hln;have H192:=hid h192;have H128:=hid h128;clear hk hln h192 h128;clear hsz
 go_wp2_with fail
 go_loopw[7,9] (fun nv jv wr=>∃j:Nat,nv=I (accN s i j)∧jv=I ((j:Int)+1)∧j+1≤2∧w=wr∧Hid (contB s i j)) (fun _ jv _=>2-(intOf jv).toNat)
 case atStart=>exact⟨0,by show _=I (leadN _);rw[Hln.out],rfl,by decide,rfl,hid (fun m a b=>by omega)⟩
 case round=>
  have zz60:=PLift.up @c345;exact c344):p:=h
theorem c600 (h:p:=by
 by_cases hsz:s.size-i<3
 ·have hszI:(s.size:Int)-(i:Int)<3:=by omega
  exact c419
 have hszI:¬(s.size:Int)-(i:Int)<3:=by omega
 have hsz2:i+3≤s.size:=by omega
 have Hk:=hid hk;have Hln:=hid hln;have H192:=hid h192;have H128:=hid h128;clear hk hln h192 h128;clear hsz
 go_wp2_with fail
 go_loopw[7,9] (fun nv jv wr=>∃j:Nat,nv=I (accN s i j)∧jv=I ((j:Int)+1)∧j+1≤3∧w=wr∧Hid (contB s i j)) (fun _ jv _=>3-(intOf jv).toNat)
 case atStart=>exact⟨0,by show _=I (leadN _);rw[Hln.out],rfl,by decide,rfl,hid (fun m a b=>by omega)⟩
 case round=>
  have zz60:=PLift.up @c346;exact c344):p:=h
theorem c601 (h:p:=by
 by_cases hsz:s.size-i<4
 ·have hszI:(s.size:Int)-(i:Int)<4:=by omega
  exact c419
 have hszI:¬(s.size:Int)-(i:Int)<4:=by omega
 have hsz2:i+4≤s.size:=by omega
 have Hk:=hid hk;have Hln:=hid hln;have H192:=hid h192;have H128:=hid h128;clear hk hln h192 h128;clear hsz
 go_wp2_with fail
 go_loopw[7,9] (fun nv jv wr=>∃j:Nat,nv=I (accN s i j)∧jv=I ((j:Int)+1)∧j+1≤4∧w=wr∧Hid (contB s i j)) (fun _ jv _=>4-(intOf jv).toNat)
 case atStart=>exact⟨0,by show _=I (leadN _);rw[Hln.out],rfl,by decide,rfl,hid (fun m a b=>by omega)⟩
 case round=>
  have zz60:=PLift.up @c347;exact c344):p:=h
theorem c602 (h:p:=by
 have hc:=HC.out;obtain⟨c0,c1,c2,c3,c4,c5,c6,c7,c8,c9⟩:=hc.c10;obtain⟨z0,z1,z2,z3,z4,z5,z6,z7,z8,z9,z10,z11,z12,z13,z14⟩:=hp.c15;exact zz119.down):p:=h
theorem c603 (h:p:=by
 have f0:=hp.free 0;have f6:=hp.free 6;have f12:=hp.free 12;have pt:=(HT.out.keep HK.out (by have:=HT.out.2.2.2.2;have:=HBB.out;omega):PTab wr).1
 have hst:=hp;have hkk:=HK.out;have hw1:IntKind.i64.wrap (s0*4)=s0*4:=IntWalk.i64_in _ (by omega)
 have hw2:IntKind.i64.wrap (3+s0*4)=3+s0*4:=IntWalk.i64_in _ (by omega)
 have zz61:=PLift.up @c349;exact c348):p:=h
theorem c604 (h:p:=by
 have f1:=hp.free 1;have f7:=hp.free 7;have f12:=hp.free 12;have pt:=(HT.out.keep HK.out (by have:=HT.out.2.2.2.2;have:=HBB.out;omega):PTab wr).2.1
 have hst:=hp;have hkk:=HK.out;have hw1:IntKind.i64.wrap (s1*16)=s1*16:=IntWalk.i64_in _ (by omega)
 have hw2:IntKind.i64.wrap (3+s0*4+s1*16)=3+s0*4+s1*16:=IntWalk.i64_in _ (by omega)
 have zz61:=PLift.up @c350;exact c348):p:=h
theorem c605 (h:p:=by
 have f2:=hp.free 2;have f8:=hp.free 8;have f12:=hp.free 12;have pt:=(HT.out.keep HK.out (by have:=HT.out.2.2.2.2;have:=HBB.out;omega):PTab wr).2.2.1
 have hst:=hp;have hkk:=HK.out;have hw1:IntKind.i64.wrap (s2*64)=s2*64:=IntWalk.i64_in _ (by omega)
 have hw2:IntKind.i64.wrap (3+s0*4+s1*16+s2*64)=3+s0*4+s1*16+s2*64:=IntWalk.i64_in _ (by omega)
 have zz61:=PLift.up @c351;exact c348):p:=h
theorem c606 (h:p:=by
 have f3:=hp.free 3;have f9:=hp.free 9;have f12:=hp.free 12;have pt:=(HT.out.keep HK.out (by have:=HT.out.2.2.2.2;have:=HBB.out;omega):PTab wr).2.2.2.1
 have hst:=hp;have hkk:=HK.out;have hw1:IntKind.i64.wrap (s3*256)=s3*256:=IntWalk.i64_in _ (by omega)
 have hw2:IntKind.i64.wrap (3+s0*4+s1*16+s2*64+s3*256)=3+s0*4+s1*16+s2*64+s3*256:=IntWalk.i64_in _ (by omega)
 have zz61:=PLift.up @c352;exact c348):p:=h
theorem c607 (h:p:=by
 have f5:=hp.free 5;have f11:=hp.free 11;have f12:=hp.free 12;have hst:=hp;have hkk:=HK.out;have hw2:IntKind.i64.wrap (3+s0*4+s1*16+s2*64+s3*256+book+room)=3+s0*4+s1*16+s2*64+s3*256+book+room:=IntWalk.i64_in _ (by omega)
 clear hc hp;have Hst:=hid hst;have Hkk:=hid hkk;clear hst hkk
 go_wp2_with fail
 go_roundw
 case rel=>exact⟨6,rfl,by decide,hid (((HC.out.set_ne (a:=⟨B+1+1,5,none⟩) _ (by show B≠B+1+1;omega)).set_ne (a:=⟨B+1+1,11,none⟩) _ (by show B≠B+1+1;omega)).set_ne (a:=⟨B+1+1,12,none⟩) _ (by show B≠B+1+1;omega)),hid (((HZ.out.set_ne (a:=⟨B+1+1,5,none⟩) _ (by show B+1≠B+1+1;omega)).set_ne (a:=⟨B+1+1,11,none⟩) _ (by show B+1≠B+1+1;omega)).set_ne (a:=⟨B+1+1,12,none⟩) _ (by show B+1≠B+1+1;omega)),hid ((((Hst.out).set 5 (I (3+s0*4+s1*16+s2*64+s3*256+book))).set 11 (I (room))).set 12 (I (3+s0*4+s1*16+s2*64+s3*256+book+room))),hid ((((Hkk.out).setCell (p:=⟨B+1+1,5,none⟩) (nb2 B) _).setCell (p:=⟨B+1+1,11,none⟩) (nb2 B) _).setCell (p:=⟨B+1+1,12,none⟩) (nb2 B) _)⟩
 case measure=>exact msA):p:=h
theorem c608 (h:p:=by
 have f4:=hp.free 4;have f10:=hp.free 10;have f12:=hp.free 12;have hst:=hp;have hkk:=HK.out;have hw2:IntKind.i64.wrap (3+s0*4+s1*16+s2*64+s3*256+book)=3+s0*4+s1*16+s2*64+s3*256+book:=IntWalk.i64_in _ (by omega)
 clear hc hp;have Hst:=hid hst;have Hkk:=hid hkk;clear hst hkk
 go_wp2_with fail
 go_roundw
 case rel=>exact⟨5,rfl,by decide,hid (((HC.out.set_ne (a:=⟨B+1+1,4,none⟩) _ (by show B≠B+1+1;omega)).set_ne (a:=⟨B+1+1,10,none⟩) _ (by show B≠B+1+1;omega)).set_ne (a:=⟨B+1+1,12,none⟩) _ (by show B≠B+1+1;omega)),hid (((HZ.out.set_ne (a:=⟨B+1+1,4,none⟩) _ (by show B+1≠B+1+1;omega)).set_ne (a:=⟨B+1+1,10,none⟩) _ (by show B+1≠B+1+1;omega)).set_ne (a:=⟨B+1+1,12,none⟩) _ (by show B+1≠B+1+1;omega)),hid ((((Hst.out).set 4 (I (3+s0*4+s1*16+s2*64+s3*256))).set 10 (I (book))).set 12 (I (3+s0*4+s1*16+s2*64+s3*256+book))),hid ((((Hkk.out).setCell (p:=⟨B+1+1,4,none⟩) (nb2 B) _).setCell (p:=⟨B+1+1,10,none⟩) (nb2 B) _).setCell (p:=⟨B+1+1,12,none⟩) (nb2 B) _)⟩
 case measure=>exact msA):p:=h
theorem c609 (h:p:=by
 have c2:=hblk.cell 6;change _=some (I (p.bK 0))at c1;change _=some (I (p.sK 0))at c2;have hbk:=HWF.out.b 0;have hsk:=HWF.out.s 0;exact zz120.down):p:=h
theorem c610 (h:p:=by
 have hhas:p.has 0 a↔(p.bK 0≤a∧a-p.bK 0<p.sK 0):=Iff.rfl;have HAT:=hid (HCA.out 0 (by omega) HN.out)
 generalize p.bK 0=X at*;generalize p.sK 0=Y at*;generalize hHP:p.has 0 a=HP at*;have zz67:=PLift.up @c377;exact c376):p:=h
theorem c611 (h:p:=by
 have hs0:=HS.out 0 (by omega)
 generalize hX:p.bK 0=X at*;generalize hY:p.sK 0=Y at*;obtain⟨n,hn⟩:∃n:Nat,Y=4*(n:Int):=⟨P.n 0,by rw[hs0];simp only[sz];omega⟩
 have HX:=hid (And.intro hX (And.intro hY hn));have HBK:=hid hblk;clear hX hY hn hs0 hblk;rw[show(((0:Nat)):Int)=(0:Int)from rfl]
 obtain⟨x0,x1⟩:=hbk;obtain⟨y0,y1⟩:=hsk
 go_wp2_with fail
 clear c1 c2
 go_loopw[7] (fun vb ws=>∃(i:Nat) (z:Int),vb=I z∧0≤z∧z≤200000∧Hid (z=X+4*(i:Int)∧Blk ws B p.flat∧Keeps (· <B) w ws∧∀j:Nat,j<i→¬(X+4*(j:Int)≤a∧a<X+4*(j:Int)+4))) (fun b _=>(X+Y-intOf b).toNat)
 case atStart=>
  exact c413
 case round=>
  clear HBK Hkp;obtain⟨i,z,rfl,hz0,hz1,HH⟩:=hrel;obtain⟨hz,hblk,hkp,hsl⟩:=HH.out;clear HH;have c1:=hblk.cell 0;have c2:=hblk.cell 6;change _=some (I (p.bK 0))at c1;change _=some (I (p.sK 0))at c2;rw[HX.out.1]at c1;rw[HX.out.2.1]at c2;have gXY:IntKind.i64.wrap (X+Y)=X+Y:=IntWalk.i64_in _ (by omega)
  by_cases hlt:z<X+Y
  ·have g3:decide (z<X+Y)=true:=decide_eq_true hlt;have hz2:z≤131072:=by omega
   have gS:IntKind.i64.wrap (z+4)=z+4:=IntWalk.i64_in _ (by omega)
   have HLT:=hid hlt;clear hlt
   by_cases h1:z≤a
   ·have g1:a≥z:=h1;have gd:IntKind.i64.wrap (a-z)=a-z:=IntWalk.i64_in _ (by omega)
    by_cases h2:a<z+4
    ·have g2:decide (a<z+4)=true:=decide_eq_true h2;have HE:=hid (cls_at0 HX.out.1 HX.out.2.1 HX.out.2.2 hz h1 h2 HLT.out Hno.out);have zz70:=PLift.up @c390;exact c389
    ·have g2:decide (a<z+4)=false:=decide_eq_false h2;have zz54:=PLift.up @c320;exact c319
   ·have g1:¬a≥z:=h1;have g1':decide (a≥z)=false:=decide_eq_false h1;have zz54:=PLift.up @c321;exact c319
  ·have g3:decide (z<X+Y)=false:=decide_eq_false hlt;have HE:=hid (cls_no0 HX.out.1 HX.out.2.1 HX.out.2.2 hz hlt hsl);have zz68:=PLift.up @c382;exact c381):p:=h
theorem c612 (h:p:=by
 have c2:=hblk.cell 7;change _=some (I (p.bK 1))at c1;change _=some (I (p.sK 1))at c2;have hbk:=HWF.out.b 1;have hsk:=HWF.out.s 1;exact zz121.down):p:=h
theorem c613 (h:p:=by
 have hhas:p.has 1 a↔(p.bK 1≤a∧a-p.bK 1<p.sK 1):=Iff.rfl;have HAT:=hid (HCA.out 1 (by omega) HN.out)
 generalize p.bK 1=X at*;generalize p.sK 1=Y at*;generalize hHP:p.has 1 a=HP at*;have zz67:=PLift.up @c378;exact c376):p:=h
theorem c614 (h:p:=by
 have hs0:=HS.out 1 (by omega)
 generalize hX:p.bK 1=X at*;generalize hY:p.sK 1=Y at*;obtain⟨n,hn⟩:∃n:Nat,Y=16*(n:Int):=⟨P.n 1,by rw[hs0];simp only[sz];omega⟩
 have HX:=hid (And.intro hX (And.intro hY hn));have HBK:=hid hblk;clear hX hY hn hs0 hblk;rw[show(((1:Nat)):Int)=(1:Int)from rfl]
 obtain⟨x0,x1⟩:=hbk;obtain⟨y0,y1⟩:=hsk
 go_wp2_with fail
 clear c1 c2
 go_loopw[7] (fun vb ws=>∃(i:Nat) (z:Int),vb=I z∧0≤z∧z≤200000∧Hid (z=X+16*(i:Int)∧Blk ws B p.flat∧Keeps (· <B) w ws∧∀j:Nat,j<i→¬(X+16*(j:Int)≤a∧a<X+16*(j:Int)+16))) (fun b _=>(X+Y-intOf b).toNat)
 case atStart=>
  exact c413
 case round=>
  clear HBK Hkp;obtain⟨i,z,rfl,hz0,hz1,HH⟩:=hrel;obtain⟨hz,hblk,hkp,hsl⟩:=HH.out;clear HH;have c1:=hblk.cell 1;have c2:=hblk.cell 7;change _=some (I (p.bK 1))at c1;change _=some (I (p.sK 1))at c2;rw[HX.out.1]at c1;rw[HX.out.2.1]at c2;have gXY:IntKind.i64.wrap (X+Y)=X+Y:=IntWalk.i64_in _ (by omega)
  by_cases hlt:z<X+Y
  ·have g3:decide (z<X+Y)=true:=decide_eq_true hlt;have hz2:z≤131072:=by omega
   have gS:IntKind.i64.wrap (z+16)=z+16:=IntWalk.i64_in _ (by omega)
   have HLT:=hid hlt;clear hlt
   by_cases h1:z≤a
   ·have g1:a≥z:=h1;have gd:IntKind.i64.wrap (a-z)=a-z:=IntWalk.i64_in _ (by omega)
    by_cases h2:a<z+16
    ·have g2:decide (a<z+16)=true:=decide_eq_true h2;have HE:=hid (cls_at1 HX.out.1 HX.out.2.1 HX.out.2.2 hz h1 h2 HLT.out Hno.out);have zz70:=PLift.up @c391;exact c389
    ·have g2:decide (a<z+16)=false:=decide_eq_false h2;have zz52:=PLift.up @c314;exact c313
   ·have g1:¬a≥z:=h1;have g1':decide (a≥z)=false:=decide_eq_false h1;have zz52:=PLift.up @c315;exact c313
  ·have g3:decide (z<X+Y)=false:=decide_eq_false hlt;have HE:=hid (cls_no1 HX.out.1 HX.out.2.1 HX.out.2.2 hz hlt hsl);have zz68:=PLift.up @c383;exact c381):p:=h
theorem c615 (h:p:=by
 have c2:=hblk.cell 8;change _=some (I (p.bK 2))at c1;change _=some (I (p.sK 2))at c2;have hbk:=HWF.out.b 2;have hsk:=HWF.out.s 2;exact zz122.down):p:=h
theorem c616 (h:p:=by
 have hhas:p.has 2 a↔(p.bK 2≤a∧a-p.bK 2<p.sK 2):=Iff.rfl;have HAT:=hid (HCA.out 2 (by omega) HN.out)
 generalize p.bK 2=X at*;generalize p.sK 2=Y at*;generalize hHP:p.has 2 a=HP at*;have zz67:=PLift.up @c379;exact c376):p:=h
theorem c617 (h:p:=by
 have hs0:=HS.out 2 (by omega)
 generalize hX:p.bK 2=X at*;generalize hY:p.sK 2=Y at*;obtain⟨n,hn⟩:∃n:Nat,Y=64*(n:Int):=⟨P.n 2,by rw[hs0];simp only[sz];omega⟩
 have HX:=hid (And.intro hX (And.intro hY hn));have HBK:=hid hblk;clear hX hY hn hs0 hblk;rw[show(((2:Nat)):Int)=(2:Int)from rfl]
 obtain⟨x0,x1⟩:=hbk;obtain⟨y0,y1⟩:=hsk
 go_wp2_with fail
 clear c1 c2
 go_loopw[7] (fun vb ws=>∃(i:Nat) (z:Int),vb=I z∧0≤z∧z≤200000∧Hid (z=X+64*(i:Int)∧Blk ws B p.flat∧Keeps (· <B) w ws∧∀j:Nat,j<i→¬(X+64*(j:Int)≤a∧a<X+64*(j:Int)+64))) (fun b _=>(X+Y-intOf b).toNat)
 case atStart=>
  exact c413
 case round=>
  clear HBK Hkp;obtain⟨i,z,rfl,hz0,hz1,HH⟩:=hrel;obtain⟨hz,hblk,hkp,hsl⟩:=HH.out;clear HH;have c1:=hblk.cell 2;have c2:=hblk.cell 8;change _=some (I (p.bK 2))at c1;change _=some (I (p.sK 2))at c2;rw[HX.out.1]at c1;rw[HX.out.2.1]at c2;have gXY:IntKind.i64.wrap (X+Y)=X+Y:=IntWalk.i64_in _ (by omega)
  by_cases hlt:z<X+Y
  ·have g3:decide (z<X+Y)=true:=decide_eq_true hlt;have hz2:z≤131072:=by omega
   have gS:IntKind.i64.wrap (z+64)=z+64:=IntWalk.i64_in _ (by omega)
   have HLT:=hid hlt;clear hlt
   by_cases h1:z≤a
   ·have g1:a≥z:=h1;have gd:IntKind.i64.wrap (a-z)=a-z:=IntWalk.i64_in _ (by omega)
    by_cases h2:a<z+64
    ·have g2:decide (a<z+64)=true:=decide_eq_true h2;have HE:=hid (cls_at2 HX.out.1 HX.out.2.1 HX.out.2.2 hz h1 h2 HLT.out Hno.out);have zz70:=PLift.up @c392;exact c389
    ·have g2:decide (a<z+64)=false:=decide_eq_false h2;have zz53:=PLift.up @c317;exact c316
   ·have g1:¬a≥z:=h1;have g1':decide (a≥z)=false:=decide_eq_false h1;have zz53:=PLift.up @c318;exact c316
  ·have g3:decide (z<X+Y)=false:=decide_eq_false hlt;have HE:=hid (cls_no2 HX.out.1 HX.out.2.1 HX.out.2.2 hz hlt hsl);have zz68:=PLift.up @c384;exact c381):p:=h
theorem c618 (h:p:=by
 have c2:=hblk.cell 9;change _=some (I (p.bK 3))at c1;change _=some (I (p.sK 3))at c2;have hbk:=HWF.out.b 3;have hsk:=HWF.out.s 3;exact zz123.down):p:=h
theorem c619 (h:p:=by
 have hhas:p.has 3 a↔(p.bK 3≤a∧a-p.bK 3<p.sK 3):=Iff.rfl;have HAT:=hid (HCA.out 3 (by omega) HN.out)
 generalize p.bK 3=X at*;generalize p.sK 3=Y at*;generalize hHP:p.has 3 a=HP at*;have zz67:=PLift.up @c380;exact c376):p:=h
theorem c620 (h:p:=by
 have hs0:=HS.out 3 (by omega)
 generalize hX:p.bK 3=X at*;generalize hY:p.sK 3=Y at*;obtain⟨n,hn⟩:∃n:Nat,Y=256*(n:Int):=⟨P.n 3,by rw[hs0];simp only[sz];omega⟩
 have HX:=hid (And.intro hX (And.intro hY hn));have HBK:=hid hblk;clear hX hY hn hs0 hblk;rw[show(((3:Nat)):Int)=(3:Int)from rfl]
 obtain⟨x0,x1⟩:=hbk;obtain⟨y0,y1⟩:=hsk
 go_wp2_with fail
 clear c1 c2
 go_loopw[7] (fun vb ws=>∃(i:Nat) (z:Int),vb=I z∧0≤z∧z≤200000∧Hid (z=X+256*(i:Int)∧Blk ws B p.flat∧Keeps (· <B) w ws∧∀j:Nat,j<i→¬(X+256*(j:Int)≤a∧a<X+256*(j:Int)+256))) (fun b _=>(X+Y-intOf b).toNat)
 case atStart=>
  exact c413
 case round=>
  clear HBK Hkp;obtain⟨i,z,rfl,hz0,hz1,HH⟩:=hrel;obtain⟨hz,hblk,hkp,hsl⟩:=HH.out;clear HH;have c1:=hblk.cell 3;have c2:=hblk.cell 9;change _=some (I (p.bK 3))at c1;change _=some (I (p.sK 3))at c2;rw[HX.out.1]at c1;rw[HX.out.2.1]at c2;have gXY:IntKind.i64.wrap (X+Y)=X+Y:=IntWalk.i64_in _ (by omega)
  by_cases hlt:z<X+Y
  ·have g3:decide (z<X+Y)=true:=decide_eq_true hlt;have hz2:z≤131072:=by omega
   have gS:IntKind.i64.wrap (z+256)=z+256:=IntWalk.i64_in _ (by omega)
   have HLT:=hid hlt;clear hlt
   by_cases h1:z≤a
   ·have g1:a≥z:=h1;have gd:IntKind.i64.wrap (a-z)=a-z:=IntWalk.i64_in _ (by omega)
    by_cases h2:a<z+256
    ·have g2:decide (a<z+256)=true:=decide_eq_true h2;have HE:=hid (cls_at3 HX.out.1 HX.out.2.1 HX.out.2.2 hz h1 h2 HLT.out Hno.out);have zz70:=PLift.up @c393;exact c389
    ·have g2:decide (a<z+256)=false:=decide_eq_false h2;have zz51:=PLift.up @c311;exact c310
   ·have g1:¬a≥z:=h1;have g1':decide (a≥z)=false:=decide_eq_false h1;have zz51:=PLift.up @c312;exact c310
  ·have g3:decide (z<X+Y)=false:=decide_eq_false hlt;have HE:=hid (cls_no3 HX.out.1 HX.out.2.1 HX.out.2.2 hz hlt hsl);have zz68:=PLift.up @c385;exact c381):p:=h
theorem c621 (h:p:=by
 have H18:Hid (¬(1024≤r∧r≤1039)):=hid (fun g=>absurd (hb.2 g) (by decide))
 clear hb
 go_wp2_with fail
 exact zz124.down):p:=h
theorem c622 (h:p:=by
 refine(ref5_in r 1632 1641 w).mono ?_;rintro e w2 ⟨b,rfl,hb,rfl⟩
 cases b with
 |true=>
  have H19:Hid ((1632≤r∧r≤1641)):=hid (hb.1 rfl);clear hb;have hm:foldM r=r+(-1584):=by have q0:=H0.out ;have q1:=H1.out ;have q2:=H2.out ;have q3:=H3.out ;have q4:=H4.out ;have q5:=H5.out ;have q6:=H6.out ;have q7:=H7.out ;have q8:=H8.out ;have q9:=H9.out ;have q10:=H10.out ;have q11:=H11.out ;have q12:=H12.out ;have q13:=H13.out ;have q14:=H14.out ;have q15:=H15.out ;have q16:=H16.out ;have q17:=H17.out ;have q18:=H18.out ;have q19:=H19.out ;rw[foldM_ifs] ;omega
  clear H0 H1 H2 H3 H4 H5 H6 H7 H8 H9 H10 H11 H12 H13 H14 H15 H16 H17 H18 H19;exact c11
 |false=>
  have zz30:=PLift.up @c236;exact c235):p:=h
theorem c623 (h:p:=by
 refine(ref5_in r 1632 1641 w).mono ?_;rintro e w2 ⟨b,rfl,hb,rfl⟩
 cases b with
 |true=>
  have H19:Hid ((1632≤r∧r≤1641)):=hid (hb.1 rfl);exact c412
 |false=>
  have zz30:=PLift.up @c237;exact c235):p:=h
theorem c624 (h:p:=by
 have hcr:=Hpr.out C[q] (List.getElem_mem hCq);rw[hd]at hex3;generalize C[q]=cq at*;obtain⟨c0,c1⟩:=hcr;exact zz125.down):p:=h
theorem c625 (h:p:=by
 have hnx:((storesD ad (C.drop (q+1)) (q+1)).bind fun _=>Tree.store (s0+sl) ad (.ret ())).exec (s3.store (ad+2+q) cq)=res:=hex3;have i1:(q:Int)<((t.size:Int)+3)/4:=by omega
 have Hnx:=hid hnx;clear hnx;clear hd hCq hex3
 go_wp2_with fail
 refine(step_store HR3.out (ad+2+q) cq ⟨c0,c1⟩).mono ?_;rintro e w6 ⟨rfl,hr6,hk6⟩;have hk6':=HK3.out.trans hk6;have Hr6:=hid hr6;have Hk6':=hid hk6';clear hr6 hk6';clear hk6
 go_wp2_with fail
 go_roundw
 case rel=>exact⟨q+1,_,by go_num,by omega,Hr6.out,Hk6'.out,Hnx.out⟩
 case measure=>simp[intOf];omega):p:=h
theorem c626 (h:p:=by
 have i1:(q:Int)<((t.size:Int)+3)/4:=by omega
 have Hex3:=hid hex3;clear hex3;clear hd hCq
 go_wp2_with fail
 refine(step_load HR3.out (x+2+q)).mono ?_;rintro e w6 ⟨rfl,hr6,hk6⟩;have hu6:=HR3.out.load_u32 (x+2+q);generalize hls6:s3.load (x+2+q)=ls at*;obtain⟨v,s4⟩:=ls;simp only at hr6 hu6;obtain⟨t0,t1⟩:=hu6;have hk6':=HK3.out.trans hk6;have Hls6:=hid hls6;have Hr6:=hid hr6;have Hk6':=hid hk6';clear hls6 hr6 hk6';clear hk6
 by_cases hv:v=cq
 ·subst hv
  go_wp2_with fail
  refine(step_off Hr6.out).mono ?_;rintro e w7 ⟨rfl,rfl⟩
  cases hoff:s4.isOff with
  |true=>
   have hnx:=Hex3.out;rw[cmpD_halt Hls6.out hoff]at hnx;have Hnx:=hid hnx;have Hoff:=hid hoff;clear hnx hoff;exact c119
  |false=>
   have hnx:=Hex3.out;rw[cmpD_yes Hls6.out hoff]at hnx;have Hnx:=hid hnx;have Hoff:=hid hoff;clear hnx hoff
   go_wp2_with fail
   go_roundw
   case rel=>exact⟨q+1,s4,by go_num,by omega,Hr6.out,Hk6'.out,Hnx.out⟩
   case measure=>simp[intOf];omega
 ·have hbv:(v !=cq)=true:=by simpa using hv
  have hnx:=Hex3.out;rw[cmpD_no Hls6.out hv]at hnx;have Hnx:=hid hnx;have Hv:=hid hv;clear hnx hv;exact c119):p:=h
theorem c627 (h:p:=by
 unfold WrM.vals at hc1;dsimp only at hc1;obtain⟨y0,y1,y2,y3,y4,y5,y6,y7,y8⟩:=hc1.c9;clear hc1;exact zz126.down):p:=h
theorem c628 (h:p:=by
 have hpc:=HP1.out;unfold PlanM.flat at hpc;obtain⟨g0,g1,g2,g3,g4,g5,g6,g7,g8,g9,g10,g11,g12,g13,g14⟩:=hpc.c15;clear hpc;have htc:=HTB.out;obtain⟨x0,x1,x2⟩:=htc.c3;clear htc;have qg0:=fun q:KC (fun _=>True) wb=>q.cell trivial g0;have qg1:=fun q:KC (fun _=>True) wb=>q.cell trivial g1;have qg2:=fun q:KC (fun _=>True) wb=>q.cell trivial g2;have qg3:=fun q:KC (fun _=>True) wb=>q.cell trivial g3
 have qg4:=fun q:KC (fun _=>True) wb=>q.cell trivial g4;have qg5:=fun q:KC (fun _=>True) wb=>q.cell trivial g5;have qg6:=fun q:KC (fun _=>True) wb=>q.cell trivial g6;have qg7:=fun q:KC (fun _=>True) wb=>q.cell trivial g7;have qg8:=fun q:KC (fun _=>True) wb=>q.cell trivial g8;have qg9:=fun q:KC (fun _=>True) wb=>q.cell trivial g9;have qg10:=fun q:KC (fun _=>True) wb=>q.cell trivial g10
 have qg11:=fun q:KC (fun _=>True) wb=>q.cell trivial g11;have qg12:=fun q:KC (fun _=>True) wb=>q.cell trivial g12;have qg13:=fun q:KC (fun _=>True) wb=>q.cell trivial g13;have qg14:=fun q:KC (fun _=>True) wb=>q.cell trivial g14;have qy3:=fun q:KC (fun _=>True) wb=>q.cell trivial y3;have qy4:=fun q:KC (fun _=>True) wb=>q.cell trivial y4;have qy5:=fun q:KC (fun _=>True) wb=>q.cell trivial y5
 have qy6:=fun q:KC (fun _=>True) wb=>q.cell trivial y6;have qy7:=fun q:KC (fun _=>True) wb=>q.cell trivial y7;have qy8:=fun q:KC (fun _=>True) wb=>q.cell trivial y8;have qx0:=fun q:KC (fun _=>True) wb=>q.cell trivial x0;have qx1:=fun q:KC (fun _=>True) wb=>q.cell trivial x1;have qx2:=fun q:KC (fun _=>True) wb=>q.cell trivial x2;have qs:=fun q:KC (fun _=>True) wb=>q.cell trivial s1
 clear g0 g1 g2 g3 g4 g5 g6 g7 g8 g9 g10 g11 g12 g13 g14 y0 y1 y2 y3 y4 y5 y6 y7 y8 x0 x1 x2 s1;refine wp_region_kc_tail (fun _=>True) 11 (by kernel_rfl) (by kernel_rfl) ?_
 simp only[List.take_succ_cons,List.take_zero,List.drop_succ_cons,List.drop_zero]
 repeat(go_big_quiet_step (fail))
 refine wpQuiet_nil ?_;rintro wc ⟨⟨_,hkc⟩,rfl⟩;clear qg0 qg1 qg2 qg3 qg4 qg5 qg6 qg7 qg8 qg9 qg10 qg11 qg12 qg13 qg14 qy3 qy4 qy5 qy6 qy7 qy8 qx0 qx1 qx2 qs;have hA3:=HA2.out.keep (HA2.out.rm.keep _ hkc fun _ _ _=>trivial) (hkc.mono fun _ _=>trivial);have hP3:=HP1.out.keep hkc trivial;have hTO3:=own_of_keep HTO1.out hkc fun _ _=>trivial;have hCO3:=own_of_keep HCO1.out hkc fun _ _=>trivial
 have hLO3:TermOwn wc (fun b=>(fun b=>(fun b=>K b∨(B≤b∧b<B4)) b∨(MB≤b∧b<M2)) b∨b=TB) (.slice LA al.length lc) al:=⟨own_of_keep HLO1.out.1 hkc fun _ _=>trivial,HLO1.out.2⟩;clear HA2 HP1 HTO1 HCO1 HLO1 HTB hkc;have hpl:=write_place1 p Hpf.out.wf ⟨v0,v1,v2,v3,v4,v5⟩ HU.out (lb+4*docs) (ld:Int) (xf,xt,xp) al LA lc t0 (w:=wc) (K:=fun b=>(fun b=>(fun b=>K b∨(B≤b∧b<B4)) b∨(MB≤b∧b<M2)) b∨b=TB) (by rw[Hlen.out];exact hA3.rm) (Or.inl (Or.inl (Or.inl HK0.out))) (HT.out.keep hA3.kp HK0.out) Hpf.out.s4 Hpf.out.b4 ⟨Hpf.out.n0,by have:=Hpf.out.n1;omega⟩ ⟨by omega,by omega⟩ ⟨⟨tf0,tf1⟩,by dsimp only;omega⟩ HTL.out (by rw[Hlen.out];have:=Hts.out.len;omega) hLO3 Ht0x.out
 have hex:=Hex.out;have hwok:=Hwok.out;generalize (wordT p (lb+4*docs) p.slots.toNat (↑ld) (xf,xt,xp) al ⟨v0,v1,v2,v3,v4,v5⟩).exec sx=fr9 at hpl hex hwok;obtain⟨⟨al2,⟨n0,n1,n2,n3,n4,n5⟩⟩,s9⟩:=fr9;dsimp only at hpl hex hwok;rw[Hlen.out]at hpl;obtain⟨hU9,hTL9,hKM9⟩:=hwok;have hKM9:=hKM9.trans HKM.out;have HPLC:=hid hpl;clear hpl Hex Hwok;have HUU:=hid hU9;have HTL9:=hid hTL9
 have HKM9:=hid hKM9;have HX9:=hid hex;clear hU9 hTL9 hKM9 hex;unfold PlanM.val V6.val tokI at HPLC;dsimp only at HPLC;have HA3:=hid hA3;have HP3:=hid hP3;have HTO3:=hid hTO3;have HCO3:=hid hCO3;clear hA3 hP3 hTO3 hCO3;clear hLO3
 go_wp2_with fail
 refine HPLC.out.mono ?_;rintro e w7 ⟨rfl,hr7,hL7,hk7⟩;have hA7:A1 w w7 K (fun b=>((fun b=>(fun b=>K b∨(B≤b∧b<B4)) b∨(MB≤b∧b<M2)) b∨b=TB)∨(Value.slice LA all.length lc).ownBlock=some b) r m c B cf ⟨segs,wt,wv,⟨v0,v1,v2,v3,v4,v5⟩⟩ (.slice (some ⟨cg,0,none⟩) segs.length cc) [J id,.slice FA fs.length fc] s9:=HA3.out.keepK (K2:=fun b=>(fun b=>(fun b=>K b∨(B≤b∧b<B4)) b∨(MB≤b∧b<M2)) b∨b=TB) (fun b hb=>Or.inl (Or.inl (Or.inl hb))) (fun b h1 h2=>Or.inl (Or.inl (Or.inr ⟨h1,by have:=HPB4.out;omega⟩))) hr7 hk7
 have hP7:=HP3.out.keep hk7 (Or.inl (Or.inl (Or.inr ⟨by have:=HPB4.out;omega,by have:=HPB4.out;omega⟩)))
 have hTO7:=own_of_keep HTO3.out hk7 fun b hb=>Or.inl (Or.inl (Or.inr (Htg.out b hb)));have hCO7:=own_of_keep HCO3.out hk7 fun b hb=>Or.inl (Or.inr (by injection hb with hb;subst hb;exact Hcg.out))
 clear hr7 hk7 HPLC HA3 HP3 HTO3 HCO3;have hA8:=hA7.setU ⟨n0,n1,n2,n3,n4,n5⟩;dsimp only at hA8;have hc1:=hA7.b1;unfold WrM.vals at hc1;dsimp only at hc1;obtain⟨y0,y1,y2,y3,y4,y5,y6,y7,y8⟩:=hc1.c9;have f3:=hc1.free 3;have f4:=hc1.free 4;have f5:=hc1.free 5;have f6:=hc1.free 6;have f7:=hc1.free 7;have f8:=hc1.free 8;clear hc1 hA7;have HP7:=hid hP7;have HTO7:=hid hTO7
 have HCO7:=hid hCO7;have HL7:=hid hL7;have HA8:=hid hA8;clear hP7 hTO7 hCO7 hL7 hA8
 go_wp2_with fail
 clear y0 y1 y2 y3 y4 y5 y6 y7 y8 f3 f4 f5 f6 f7 f8;have hkU:=keeps_setU w7 (B+1) ⟨n0,n1,n2,n3,n4,n5⟩;dsimp only at hkU;generalize (((((w7.setCell ⟨B+1,3,none⟩ (I n0)).setCell ⟨B+1,4,none⟩ (I n1)).setCell ⟨B+1,5,none⟩ (I n2)).setCell ⟨B+1,6,none⟩ (I n3)).setCell ⟨B+1,7,none⟩ (I n4)).setCell ⟨B+1,8,none⟩ (I n5)=WX at*;have hA9:=HA8.out.less (G':=(fun b=>(fun b=>(fun b=>K b∨(B≤b∧b<B4)) b∨(MB≤b∧b<M2)) b∨(Value.slice LA all.length lc).ownBlock=some b)) (fun b hb=>hb.elim (fun h=>Or.inl (Or.inl h)) Or.inr) (fun b hb=>Or.inl (Or.inl (Or.inl hb))) (fun b h1 h2=>Or.inl (Or.inl (Or.inr ⟨h1,by have:=HPB4.out;omega⟩)))
 have hP9:=HP7.out.keep hkU (by have:=HPB4.out;show PB≠B+1;omega)
 have hTO9:=own_of_keep HTO7.out hkU fun b hb=>by have:=Htg2.out b hb;show b≠B+1;omega
 have hCO9:=own_of_keep HCO7.out hkU fun b hb=>by injection hb with hb;subst hb;have:=Hcg.out;have:=HPB4.out;show cg≠B+1;omega
 have hL9:TermOwn WX (fun b=>(fun b=>K b∨(B≤b∧b<B4)) b∨(MB≤b∧b<M2)) (.slice LA al2.length lc) al2:=by
  have e2:al2.length=all.length:=by have:=congrArg List.length HKM9.out;simpa using this
  have h9:=HL7.out;rw[←e2]at h9;exact⟨own_of_keep h9.1 hkU fun b hb=>by have h8:=h9.2 b hb;show b≠B+1;intro e;subst e;exact h8 (Or.inl (Or.inl (Or.inr ⟨by omega,by have:=HPB4.out;omega⟩))),fun b hb hk=>h9.2 b hb (Or.inl hk)⟩
 clear hkU HA8 HP7 HTO7 HCO7 HL7;have HA9:=hid hA9;have HP9:=hid hP9;have HTO9:=hid hTO9;have HCO9:=hid hCO9;have HL9:=hid hL9;clear hA9 hP9 hTO9 hCO9 hL9
 go_roundw
 case rel=>exact⟨i+1,al2,n0,n1,n2,n3,n4,n5,s9,by go_num,by omega,HX9,HA9,HP9,HTO9,HCO9,HL9,HUU,HTL9,HKM9⟩
 case measure=>exact msA):p:=h
theorem c629 (h:p:=by
 have HA4:=hid hA4;have HCO4:=hid hCO4;clear hA4 hCO4
 go_wp2_with fail
 refine(step_store HA4.out.rm 1 (wv+1) (by unfold U32;omega)).mono ?_
 rintro e wi ⟨rfl,hri,hki⟩;have hA5:=HA4.out.keep hri hki;have hCO5:=own_of_keep HCO4.out hki fun b hb=>Or.inl (Or.inr (by injection hb with hb;subst hb;exact Hcg.out))
 clear HA4 HCO4 hri hki y0 y1 y2 y3 y4 y5 y6 y7 y8;obtain⟨g',eg,gs⟩:=own_rec (fun x:SegM=>(rfl:x.cells.length=3)) hCO5 Hlx.out;injection eg with eg;injection eg with eg;subst eg
 have a1:=gs 1 _ (by decide) rfl
 clear gs;have fg:=ownB_free hCO5 (by have:=Hkl.out;omega) (kl*3+1)
 have hw7:IntKind.i64.wrap ((ld:Int)+1)=(ld:Int)+1:=IntWalk.i64_in _ (by omega)
 have hw8:IntKind.i64.wrap (wt+fr)=wt+fr:=IntWalk.i64_in _ (by omega)
 have hcgB:¬cg=B+1:=by have:=Hcg.out;have:=HPB4.out;omega
 have hcgB':¬B+1=cg:=fun e=>hcgB e.symm;have hcgR:¬cg=B+1+1+1:=by have:=Hcg.out;have:=HPB4.out;omega
 have hcgR':¬B+1+1+1=cg:=fun e=>hcgR e.symm;have hA6:=hA5.setG (b:=cg) (j:=kl*3+1) (I ((ld:Int)+1)) (Or.inl (Or.inr Hcg.out)) (by have:=Hcg.out;have:=HPB4.out;omega)
 have hCO6:=own_recSet (fun x:SegM=>(rfl:x.cells.length=3)) hCO5 (j:=1) (a':=⟨la,ld+1,ls⟩) (u:=I ((ld:Int)+1)) Hlx.out (by decide) (by show [_,_,_]=[_,_,_];rw[Int.natCast_add];rfl)
 rw[show segs.set kl ⟨la,ld+1,ls⟩=moreDocs segs from moreDocs_set Hkl.out Hlx.out]at hCO6
 have hc1:=hA5.b1;unfold WrM.vals at hc1;dsimp only at hc1;obtain⟨y0,y1,y2,y3,y4,y5,y6,y7,y8⟩:=hc1.c9;clear hc1;clear hA5 hCO5;have HA6:=hid hA6;have HCO6:=hid hCO6;clear hA6 hCO6
 go_upto_region 31 with fail
 clear y0 y1 y2 y3 y4 y5 y6 y7 y8 fg a1;generalize wi.setCell ⟨cg,kl*3+1,none⟩ (I ((ld:Int)+1))=wj at*;have hc1:=HA6.out.b1;unfold WrM.vals at hc1;dsimp only at hc1;obtain⟨y0,y1,y2,y3,y4,y5,y6,y7,y8⟩:=hc1.c9;clear hc1;have f1:=HA6.out.b1.free 1;have hA7:=HA6.out.trm (wt+fr);dsimp only at hA7;have hkt:Keeps (· ≠B+1) wj (wj.setCell ⟨B+1,1,none⟩ (I (wt+fr))):=(Keeps.refl _ _).setCell (p:=⟨B+1,1,none⟩) (fun h=>h rfl) _
 have hCO7:=own_of_keep HCO6.out hkt fun b hb=>by injection hb with hb;subst hb;exact hcgB
 clear HA6 HCO6 hkt;have HA7:=hid hA7;have HCO7:=hid hCO7;clear hA7 hCO7
 go_upto_region 32 with fail
 clear y0 y1 y2 y3 y4 y5 y6 y7 y8 f1 hcgB hcgB' hcgR hcgR';generalize wj.setCell ⟨B+1,1,none⟩ (I (wt+fr))=wk at*;clear hex hw1 hw2 hw3 hw4 hw5 hw6 hw7 hw8 hltI hlt hi9 hfi hlay hge hsn0 hkI hlb hq htk ht64 hf0;have hc1:=(HA7.out).b1;unfold WrM.vals at hc1;dsimp only at hc1;obtain⟨y0,y1,y2,y3,y4,y5,y6,y7,y8⟩:=hc1.c9;have hz:=(HA7.out).b3;unfold zer9 at hz;obtain⟨z0,z1,z2,z3,z4,z5,z6,z7,z8⟩:=hz.c9
 have f:=hz.free;clear hc1 hz
 iterate 13 (first|go_values|go_skip|go_guarded|go_step|go_upon|go_back)
 go_step
 obtain⟨hE,hrr,hkk,hk0⟩:=HA7.out.out;unfold WrM.vals at hE;dsimp only at hE hrr hkk hk0;clear y0 y1 y2 y3 y4 y5 y6 y7 y8 z0 z1 z2 z3 z4 z5 z6 z7 z8 f;generalize (((((((((wk.setCell ⟨B+1+1+1,0,none⟩ (.slice (some ⟨cg,0,none⟩) segs.length cc)).setCell ⟨B+1+1+1,1,none⟩ (I (wt+fr))).setCell ⟨B+1+1+1,2,none⟩ (J (wv+1))).setCell ⟨B+1+1+1,3,none⟩ (I v0)).setCell ⟨B+1+1+1,4,none⟩ (I v1)).setCell ⟨B+1+1+1,5,none⟩ (I v2)).setCell ⟨B+1+1+1,6,none⟩ (I v3)).setCell ⟨B+1+1+1,7,none⟩ (I v4)).setCell ⟨B+1+1+1,8,none⟩ (I v5))=WZ at*
 obtain⟨d0,d1,d2,d3,d4,d5,d6,d7,d8⟩:=hE.c9;refine bodyPost_ret (v:= .tuple #[.agg #[.slice (some ⟨cg,0,none⟩) segs.length cc,I (wt+fr),J (wv+1),I v0,I v1,I v2,I v3,I v4,I v5],I 0]) ?_ rfl ?_
 ·exact c73
 ·have hco9:=own_of_keep HCO7.out hk0 fun b hb=>by injection hb with hb;subst hb;have:=Hcg.out;have:=HPB4.out;show cg≠B+1+1+1;omega
  have hml:(moreDocs segs).length=segs.length:=by rw[←moreDocs_set Hkl.out Hlx.out,List.length_set]
  rw[hml]at hco9;refine hR'.out _ _ ⟨⟨_,(fun b=>(fun b=>(fun b=>K b∨(B≤b∧b<B4)) b∨(MB≤b∧b<M2)) b∨(Value.slice LA all.length lc).ownBlock=some b),fun b hb=>Or.inl (Or.inl (Or.inl hb)),?_,(own_slAtL hco9).mono fun b hb=>(by have hb:some cg=some b:=hb;injection hb with hb;subst hb;exact⟨Or.inl (Or.inr Hcg.out),by have h1:=Hcg.out;have h2:=HPB4.out;omega⟩),hrr⟩,hkk⟩
  rw[←HUE.out]):p:=h
theorem c630 (h:p:=by
 simp[results,Tryz.results41,go_sem,d0,d1,d2,d3,d4,d5,d6,d7,d8,d9,d10,d11,d12,d13,d14]):p:=h
theorem c631 (h:p:=by
 obtain⟨tv,rfl,hto⟩:=hpo;obtain⟨TA,tc,rfl⟩:=ownB_form hto.1;have hsz:=hkA.size;have hsz1:=hk1.size;have hB0:=hA0.keep hk1 hA0.lt;have hB1:=hA1.keep hk1 hA1.lt;have hB2:=hA2.keep hk1 hA2.lt;have hB3:=hA3.keep hk1 hA3.lt;have hkw:Keeps (· <B) w w1:=hkA.trans (hk1.mono fun b hb=>by omega)
 have hl3:=hB3.lt;have hto1:=hto.1;have hto2:=hto.2;have ha3:=hA3.lt;clear hA0 hA1 hA2 hA3 hkA hk1 hF0 hfl0 hto;have hcc:=hB0;rw[Hcli.out]at hcc;obtain⟨c0,c1,c2,c3,c4,c5,c6,c7,c8,c9⟩:=hcc.c10;clear hcc;have HB0:=hid hB0;have HB1:=hid hB1;have HB2:=hid hB2;have HB3:=hid hB3;have Hkw:=hid hkw;have Hto1:=hid hto1;have Hto2:=hid hto2;have HBB:=hid hBB;have Ha3:=hid ha3
 clear hB0 hB1 hB2 hB3 hkw hto1 hto2 hBB ha3
 go_wp2_with fail
 refine(Hlay.out w1 (HT.out.keep (K:=(· <B)) Hkw.out (by show 0<B;have:=Hltt.out 0 HK0.out;omega))).mono ?_
 rintro e w2 ⟨rfl,hk2⟩;clear c0 c1 c2 c3 c4 c5 c6 c7 c8 c9;have hA0:=HB0.out.keep hk2 HB0.out.lt;have hA1:=HB1.out.keep hk2 HB1.out.lt;have hA2:=HB2.out.keep hk2 HB2.out.lt;have hA3:=HB3.out.keep hk2 HB3.out.lt;have hto3:=own_of_keep Hto1.out hk2 fun b hb=>own_ne Hto1.out b hb;have hk3:Keeps (· <B) w w2:=Hkw.out.trans (hk2.mono fun b hb=>by omega)
 have hb2:w1.heap.size≤w2.heap.size:=hk2.size;clear HB0 HB1 HB2 HB3 Hkw hk2;have HA0:=hid hA0;have HA1:=hid hA1;have HA2:=hid hA2;have HA3:=hid hA3;have Hto3:=hid hto3;have Hk3:=hid hk3;have Hb2:=hid hb2;clear hA0 hA1 hA2 hA3 hto3 hk3 hb2;unfold PlanM.val;have hc1:=HA1.out;unfold WrM.vals at hc1;dsimp only at hc1;obtain⟨y0,y1,y2,y3,y4,y5,y6,y7,y8⟩:=hc1.c9;have hc2:=HA2.out
 obtain⟨x0,x1⟩:=hc2.c2;clear hc1 hc2;have l1:B+1<w2.heap.size:=HA1.out.lt;have l2:B+1+1<w2.heap.size:=HA2.out.lt
 go_wp2_with fail
 refine calls_gen (fun W3=>(∃W2,w2=W2∧W3=W2.alloc (.cells #[I p.base.a0,I p.base.a1,I p.base.a2,I p.base.a3,I p.base.a4,I p.base.a5,I p.size.a0,I p.size.a1,I p.size.a2,I p.size.a3,I p.size.a4,I p.size.a5,I p.cells,I p.slots,I p.live] 42))) ⟨w2,rfl,rfl⟩ (fun w3 hw3=>?_);clear y0 y1 y2 y3 y4 y5 y6 y7 y8 x0 x1 l1 l2;obtain⟨_,rfl,hw3⟩:=hw3;have hka:Keeps (· <w2.heap.size) w2 w3:=by rw[hw3];exact(Keeps.refl _ _).alloc (fun b hb=>hb) _
 have hP0:Blk w3 w2.heap.size p.flat:=by rw[hw3];exact Blk.new w2 p.flat 42
 have hz3:w3.heap.size=w2.heap.size+1:=by rw[hw3];exact World.size_alloc _ _
 have hB0:=HA0.out.keep hka HA0.out.lt;have hB1:=HA1.out.keep hka HA1.out.lt;have hB2:=HA2.out.keep hka HA2.out.lt;have hB3:=HA3.out.keep hka HA3.out.lt;have hto4:=own_of_keep Hto3.out hka fun b hb=>own_ne Hto3.out b hb;have hk4:Keeps (· <B) w w3:=Hk3.out.trans (hka.mono fun b hb=>by have:=Hb2.out;omega)
 have hBB:=HBB.out;have hkg:=H.out.moreB (w':=w3) (by rw[hBB];exact hk4)
 rw[hBB]at hkg;have hD:A1 w w3 K (fun b=>K b∨(B≤b∧b<w3.heap.size)) r m c B cf ⟨segs,wt,wv,⟨u0,u1,u2,u3,u4,u5⟩⟩ (.slice (some ⟨b0,o0,none⟩) segs.length cp) [J id,.slice FA fs.length fc] s:=⟨hkg,hk4.mono Hltt.out,fun b hb=>Or.inl hb,fun b h1 h2=>Or.inr ⟨h1,by have:=hB3.lt;omega⟩,Hltt.out,hB0,hB1,hB2,hB3⟩
 have htg:∀b,(Value.slice TA toks.length tc).ownBlock=some b→B+1+1+1<b∧b<w2.heap.size:=fun b hb=>⟨by have:=Hto2.out b hb;have:=Ha3.out;omega,own_ne Hto3.out b hb⟩
 have hPB:B+1+1+1<w2.heap.size:=HA3.out.lt;generalize hPP:w2.heap.size=PB at*;generalize hB4:w3.heap.size=B4 at*;clear hw3 hka hB0 hB1 hB2 hB3 hk4 hkg HA0 HA1 HA2 HA3 Hto3 Hk3 Hb2 Hto1 Hto2 Ha3 hsz hsz1 hl3;have hTO:w3.ownsRow 0 128 3 (.slice TA toks.length tc) toks.length (toks.flatMap tokI):=hto4;have hSS:=Hsl.out.keep hD.kp fun b hb=>hb;have hSG:SlAt w3 (fun b=>K b∨(B≤b∧b<B4)) 3 (.slice (some ⟨b0,o0,none⟩) segs.length cp) segs.length (segs.flatMap SegM.cells):=hSS.mono fun b hb=>Or.inl hb
 have hplc:=write_place hD.rm ⟨segs,wt,wv,⟨u0,u1,u2,u3,u4,u5⟩⟩ (some ⟨b0,o0,none⟩) cp id hSG Hok.out hn hi;unfold WrM.vals at hplc;dsimp only at hplc;rw[hq]at hplc;dsimp only at hplc;refine hplc.mono ?_;rintro e w4 ⟨rfl,hr4,hk5⟩;have hD1:=hD.keep hr4 hk5;have hP1:=hP0.keep hk5 (Or.inr ⟨by omega,by omega⟩)
 have hT1:=own_of_keep hTO hk5 fun b hb=>Or.inr ⟨by have:=(htg b hb).1;omega,by have:=(htg b hb).2;omega⟩
 clear hplc hD hP0 hTO hr4 hk5 hto4 hSG hSS;exact zz127.down):p:=h
theorem c632 (h:p:=by
 have zz155:=PLift.up @c741;exact c739):p:=h
theorem c633 (h:p:=by
 exact zz3.down):p:=h
theorem c634 (h:p:=by
 obtain⟨la,ld,ls⟩:=live;have hlo9:=Hlo.out;dsimp only at hlo9;obtain⟨⟨la0,la1⟩,ld1⟩:=hlo9;have hw1:IntKind.i64.wrap ((segs.length:Int)-1)=(kl:Int):=by rw[IntWalk.i64_in _ (by have:=Hkl.out;omega)];have:=Hkl.out;omega
 have hkI:(kl:Int)<(segs.length:Int):=by have:=Hkl.out;omega
 have hblk:=hS2.kp.block b0 (by have:=HBB.out;omega)
 have a0:=(World.cell?_of_block (a:=⟨b0,o0+kl*3+0,none⟩) hblk).trans (Gl.out 0 _ rfl);have a1:=(World.cell?_of_block (a:=⟨b0,o0+kl*3+1,none⟩) hblk).trans (Gl.out 1 _ rfl);have a2:=(World.cell?_of_block (a:=⟨b0,o0+kl*3+2,none⟩) hblk).trans (Gl.out 2 _ rfl);simp only[Nat.add_zero]at a0;dsimp only at a0 a1 a2;have hc9:=(hS2).b0;obtain⟨y0,y1,y2,y3,y4,y5,y6,y7,y8,y9⟩:=hc9.c10
 clear hc9;clear hblk;have HS2:=hid hS2;have Hto3:=hid hto3;clear hS2 hto3
 go_upto_region 8 with fail
 have hS3:=HS2.out.alloc (.cells #[I la,I (ld:Int),.bool ls] 65);have hLB:=Blk.new w2 [I la,I (ld:Int),.bool ls] 65;have hto4:=own_of_keep Hto3.out ((Keeps.refl (· <w2.heap.size) w2).alloc (fun b hb=>hb) (.cells #[I la,I (ld:Int),.bool ls] 65)) fun b hb=>own_ne Hto3.out b hb;have hlbB:B+1+1+1+1<w2.heap.size:=HS2.out.b4.lt;have hlbt:∀b,(Value.slice TA toks.length tc).ownBlock=some b→b<w2.heap.size:=fun b hb=>own_ne Hto3.out b hb
 generalize hLBe:w2.heap.size=LB at*;generalize w2.alloc (.cells #[I la,I (ld:Int),.bool ls] 65)=w3 at*;clear HS2 Hto3 y0 y1 y2 y3 y4 y5 y6 y7 y8 y9 a0 a1 a2 hLBe;have hc9:=hLB;obtain⟨v0,v1,v2⟩:=hc9.c3;clear hc9;have hc9:=hS3.b1;rw[Hcli.out]at hc9;have c0:=hc9.cell 0;simp only[List.getElem?_cons_zero]at c0;exact zz128.down):p:=h
theorem c635 (h:p:=by
 clear hc9;have zz72:=PLift.up @c441;exact c440):p:=h
theorem c636 (h:p:=by
 exact zz6.down):p:=h
theorem c637 (h:p:=by
 have hgt:¬terms<wt+fr9:=by have:=Hcte.out;omega
 have hgt2:decide (wt+fr9>terms)=false:=decide_eq_false hgt;have hc9:=(hS6).b0;obtain⟨y0,y1,y2,y3,y4,y5,y6,y7,y8,y9⟩:=hc9.c10;clear hc9;have hc9:=hS6.b1;rw[Hcli.out]at hc9;have c1:=hc9.cell 1;simp only[List.getElem?_cons_zero,List.getElem?_cons_succ]at c1;clear hc9;have hpc:=hS6.b2;unfold PlanM.flat at hpc;obtain⟨g0,g1,g2,g3,g4,g5,g6,g7,g8,g9,g10,g11,g12,g13,g14⟩:=hpc.c15
 clear hpc;have hnp:=needsP_pos p all 0 zero6 (Int.le_refl _) (all_six (by decide) (by decide) (by decide) (by decide) (by decide) (by decide))
 rw[Hnd.out]at hnp;dsimp only at hnp;obtain⟨hnp,hnf0,hnf1⟩:=hnp;have hfit:=fun W=>fits_ref6 p ⟨u0,u1,u2,u3,u4,u5⟩ ⟨m0,m1,m2,m3,m4,m5⟩ W (fun k hk=>by have h1:=Hpf.out.g k hk;have h2:=Hui.out.g6 k hk;exact⟨h2.1,h2.2,h1.2,hnp k hk⟩)
 rw[hfi]at hfit;unfold PlanM.val V6.val at hfit;dsimp only at hfit;have Hfit:=hid hfit;clear hfit hnp hnf0 hnf1;obtain⟨n0,n1,n2,n3,n4,n5⟩:=hm.c6;have HS6:=hid hS6;have HLB6:=hid hLB6;have HTO6:=hid hTO6;have Hm:=hid hm;clear hS6 hLB6 hTO6 hm
 go_wp2_with fail
 refine(Hfit.out wr).mono ?_;rintro e w7 ⟨rfl,hk7⟩;have hS7:=HS6.out.calls hk7;have hLB7:=HLB6.out.keep hk7 HLB6.out.lt;have hTO7:=own_of_keep HTO6.out hk7 fun b hb=>own_ne HTO6.out b hb;clear HS6 HLB6 HTO6 Hm Hfit hk7 c1 n0 n1 n2 n3 n4 n5 hgt2 y0 y1 y2 y3 y4 y5 y6 y7 y8 y9 g0 g1 g2 g3 g4 g5 g6 g7 g8 g9 g10 g11 g12 g13 g14;exact zz129.down):p:=h
theorem c638 (h:p:=by
 have hS7':=hS7;have hcp9:=fun W (hk:Keeps (· <B) w W)=>ref12_copied cs segs wt wv u0 u1 u2 u3 u4 u5 (some ⟨cb,co,none⟩) cp (some ⟨b0,o0,none⟩) cp2 W K (fun b h9=>Nat.lt_of_lt_of_le (Hb.out b h9) (by have:=Keeps.size hk;have:=HBB.out;omega)) (Hsl.out.keep hk Hb.out) hn0 hcn (Hs2.out.keep hk Hb.out) (by have:=Hkl.out;omega) hn
 have Hcp9:=hid (show∀W,Keeps (· <B) w W→_ from hcp9)
 clear hcp9 hS7';have hc9:=(hS7).b0;obtain⟨y0,y1,y2,y3,y4,y5,y6,y7,y8,y9⟩:=hc9.c10;clear hc9;have HS7:=hid hS7;have HLB7:=hid hLB7;have HTO7:=hid hTO7;clear hS7 hLB7 hTO7
 go_wp2_with fail
 refine(Hcp9.out w7 HS7.out.kp).mono ?_;rintro e w8 ⟨NB,A3,cp3,rfl,hge8,hN8,ho8,hne8,hk8⟩;have hS8:=HS7.out.calls hk8;have hLB8:=HLB7.out.keep hk8 HLB7.out.lt;have hTO8:=own_of_keep HTO7.out hk8 fun b hb=>own_ne HTO7.out b hb;have hL7:=HLB7.out.lt;have hB7:=HS7.out.b4.lt;have hT7:=fun b (hb:(Value.slice TA toks.length tc).ownBlock=some b)=>own_ne HTO7.out b hb;have hog:∀b,(Value.slice A3 segs.length cp3).ownBlock=some b→w7.heap.size≤b∧b<w8.heap.size:=fun b hb=>ownB_lt ho8 hb
 have ho8:=own_any ho8;clear HS7 HLB7 HTO7 Hcp9 hk8 y0 y1 y2 y3 y4 y5 y6 y7 y8 y9;have HS8:=hid hS8;have HLB8:=hid hLB8;have HTO8:=hid hTO8;have HN8:=hid hN8;have Ho8:=hid ho8;have Hne8:=hid hne8;have Hog:=hid hog;have HT7:=hid hT7;clear hS8 hLB8 hTO8 hN8 ho8 hne8 hog hT7
 go_upto_region 34 with fail
 have hka:Keeps (· <w8.heap.size) w8 (w8.alloc (.cells #[.slice (some ⟨NB,0,none⟩) cs.length cs.length,.slice A3 segs.length cp3,I wt,J wv,I u0,I u1,I u2,I u3,I u4,I u5] 49)):=(Keeps.refl _ _).alloc (fun b hb=>hb) _;have hTB:=Blk.new w8 [.slice (some ⟨NB,0,none⟩) cs.length cs.length,.slice A3 segs.length cp3,I wt,J wv,I u0,I u1,I u2,I u3,I u4,I u5] 49;have hS9:=HS8.out.calls hka
 have hLB9:=HLB8.out.keep hka HLB8.out.lt;have hTO9:=own_of_keep HTO8.out hka fun b hb=>own_ne HTO8.out b hb;have hN9:=HN8.out.keep hka HN8.out.lt;have ho9:=own_of_keep Ho8.out hka fun b hb=>own_ne Ho8.out b hb;have hNl:=HN8.out.lt;have hsz9:=World.size_alloc w8 (.cells #[.slice (some ⟨NB,0,none⟩) cs.length cs.length,.slice A3 segs.length cp3,I wt,J wv,I u0,I u1,I u2,I u3,I u4,I u5] 49)
 have h78:w7.heap.size≤w8.heap.size:=by omega
 have hHog:=Hog.out;have hHT7:=HT7.out;generalize hTBe:w8.heap.size=TB at*;generalize w8.alloc (.cells #[.slice (some ⟨NB,0,none⟩) cs.length cs.length,.slice A3 segs.length cp3,I wt,J wv,I u0,I u1,I u2,I u3,I u4,I u5] 49)=w9 at*;generalize w7.heap.size=M7 at*;have HToM:=hid (show∀b,(Value.slice TA toks.length tc).ownBlock=some b→b<TB from fun b hb=>by have:=hHT7 b hb;omega)
 have Hog9:=hid (show∀b,(Value.slice A3 segs.length cp3).ownBlock=some b→b<TB∧B+1+1+1+1<b∧b≠NB∧b≠LB from fun b hb=>⟨(hHog b hb).2,by have:=(hHog b hb).1;omega,Hne8.out b hb,by have:=(hHog b hb).1;omega⟩)
 clear HS8 HLB8 HTO8 HN8 Ho8 Hne8 Hog HT7 hHog hHT7 hka;have hLT:LB<TB:=by omega
 have hBT:B+1+1+1+1<TB:=by omega
 have hTB2:=hTB;have hlt9:=hTB.lt;clear hTBe;have HS9:=hid hS9;have HLB9:=hid hLB9;have HTO9:=hid hTO9;have HN9:=hid hN9;have Ho9:=hid ho9;have HTB:=hid hTB;have Hwd:=hid hwd;clear hS9 hLB9 hTO9 hN9 ho9 hTB hwd
 go_wp2_with fail
 go_loopw[163] (fun iv wx=>∃(i nbi:Nat) (csi:List Int) (v0 v1 v2 v3 v4 v5:Int),iv=I (i:Int)∧i≤toks.length∧nbi≠TB∧Hid (WordsTo p s0 p.slots.toNat (ld:Int) (toks.drop i) csi ⟨v0,v1,v2,v3,v4,v5⟩ cz uz)∧Hid (csi.length=cs.length)∧Hid (Blk wx TB [.slice (some ⟨nbi,0,none⟩) cs.length cs.length,.slice A3 segs.length cp3,I wt,J wv,I v0,I v1,I v2,I v3,I v4,I v5])∧Hid (Blk wx nbi (csi.map (Value.int .u32)))∧Hid (Keeps (fun b=>b<w9.heap.size∧b≠TB) w9 wx)) (fun iv _=>toks.length-(intOf iv).toNat)
 case atStart=>exact⟨0,NB,cs,u0,u1,u2,u3,u4,u5,rfl,Nat.zero_le _,by omega,Hwd,hid rfl,HTB,HN9,hid (Keeps.refl _ _)⟩
 case round=>
  clear HN9 HTB hTB2 Hwd;obtain⟨i,nbi,csi,v0,v1,v2,v3,v4,v5,rfl,hi,hnT,HW9,Hcsl,HTB9,HNB9,HK9⟩:=hrel
  by_cases hlt:i<toks.length
  ·have hltI:(i:Int)<(toks.length:Int):=by omega
   obtain⟨x,hx⟩:∃x,toks[i]? =some x:=⟨_,List.getElem?_eq_getElem hlt⟩;have hwt9:=HW9.out;rw[show toks.drop i=x::toks.drop (i+1) by
    obtain⟨h9,h8⟩:=List.getElem?_eq_some_iff.1 hx;rw[List.drop_eq_getElem_cons h9,h8]]at hwt9
   obtain⟨hu9,ca,rc,ua,tl,cb2,t2,ub,hr1,hr2,hr3,hr4,hr5⟩:=hwt9;have zz166:=PLift.up @c776;exact c775
  ·obtain rfl:i=toks.length:=by omega
   have hltI:¬(toks.length:Int)<(toks.length:Int):=by omega
   have hwx:=HW9.out;rw[List.drop_length]at hwx;have hwx:cz=csi∧uz=⟨v0,v1,v2,v3,v4,v5⟩:=hwx;obtain⟨hcz,huz⟩:=hwx;subst huz;have Hcz:=hid hcz;clear hcz HW9;have zz166:=PLift.up @c777;exact c775):p:=h
theorem c639 (h:p:=by
 have hc9:=(hS7).b0;obtain⟨y0,y1,y2,y3,y4,y5,y6,y7,y8,y9⟩:=hc9.c10;clear hc9;have hz9:=(hS7).b4;unfold st0 at hz9;obtain⟨z0,z1,z2,z3,z4,z5,z6,z7,z8,z9⟩:=hz9.c10;have f:=hz9.free;clear hz9;have HS7:=hid hS7;have HLB7:=hid hLB7;have HTO7:=hid hTO7;clear hS7 hLB7 hTO7
 go_upto_region 32 with fail
 go_region
 iterate 2 (first|go_values|go_skip|go_guarded|go_step|go_upon|go_back)
 go_step
 have hE:=(blk_out10 (HS7.out).b4 rfl (.slice (some ⟨cb,co,none⟩) cs.length cp) (.slice (some ⟨b0,o0,none⟩) segs.length cp2) (I wt) (J wv) (I u0) (I u1) (I u2) (I u3) (I u4) (I u5)).drew;have hkk:=(keeps_out10 (b:=B+1+1+1+1) (HS7.out).kp (fun h=>by have h:B+1+1+1+1<B:=h;omega) (.slice (some ⟨cb,co,none⟩) cs.length cp) (.slice (some ⟨b0,o0,none⟩) segs.length cp2) (I wt) (J wv) (I u0) (I u1) (I u2) (I u3) (I u4) (I u5)).drew
 have hkn:=(keeps_out10 (K:=(· ≠B+1+1+1+1)) (b:=B+1+1+1+1) (Keeps.refl _ w7) (fun h=>h rfl) (.slice (some ⟨cb,co,none⟩) cs.length cp) (.slice (some ⟨b0,o0,none⟩) segs.length cp2) (I wt) (J wv) (I u0) (I u1) (I u2) (I u3) (I u4) (I u5)).drew;clear y0 y1 y2 y3 y4 y5 y6 y7 y8 y9 z0 z1 z2 z3 z4 z5 z6 z7 z8 z9 f;generalize ((((((((((w7.setCell ⟨B+1+1+1+1,0,none⟩ (.slice (some ⟨cb,co,none⟩) cs.length cp)).setCell ⟨B+1+1+1+1,1,none⟩ (.slice (some ⟨b0,o0,none⟩) segs.length cp2)).setCell ⟨B+1+1+1+1,2,none⟩ (I wt)).setCell ⟨B+1+1+1+1,3,none⟩ (J wv)).setCell ⟨B+1+1+1+1,4,none⟩ (I u0)).setCell ⟨B+1+1+1+1,5,none⟩ (I u1)).setCell ⟨B+1+1+1+1,6,none⟩ (I u2)).setCell ⟨B+1+1+1+1,7,none⟩ (I u3)).setCell ⟨B+1+1+1+1,8,none⟩ (I u4)).setCell ⟨B+1+1+1+1,9,none⟩ (I u5)).drew=WZ at*
 obtain⟨d0,d1,d2,d3,d4,d5,d6,d7,d8,d9⟩:=hE.c10;refine bodyPost_ret (v:= .tuple #[I 3,.agg #[.slice (some ⟨cb,co,none⟩) cs.length cp,.slice (some ⟨b0,o0,none⟩) segs.length cp2,I wt,J wv,I u0,I u1,I u2,I u3,I u4,I u5]]) ?_ rfl ?_
 ·exact c88
 ·exact c92):p:=h
theorem c640 (h:p:=by
 have zz165:=PLift.up @c774;exact c771):p:=h
theorem c641 (h:p:=by
 have Hui:=hid hui;clear hui;exact zz78.down):p:=h
theorem c642 (h:p:=by
 exact zz79.down):p:=h
theorem c643 (h:p:=by
 have hcb:=hBk;obtain⟨m0,m1,m2,m3,m4,m5⟩:=hcb.c6;have hc1:=hE1;obtain⟨y0,y1,y2,y3,y4,y5⟩:=hc1.c6;have f0:=hc1.free 0;have f1:=hc1.free 1;have f2:=hc1.free 2;have f3:=hc1.free 3;have f4:=hc1.free 4;have f5:=hc1.free 5;clear hcb hc1;have hG1:=hE1.set6 (I n0) (I n1) (I n2) (I n3) (I n4) (I n5) rfl;have hG2:=hE2.set6_ne (b:=B+1) (I n0) (I n1) (I n2) (I n3) (I n4) (I n5) (by omega)
 have hGN:=hN4.set6_ne (b:=B+1) (I n0) (I n1) (I n2) (I n3) (I n4) (I n5) (by omega)
 have hG3:=hBk.set6_ne (b:=B+1) (I n0) (I n1) (I n2) (I n3) (I n4) (I n5) h31;have hkG:=hkE.set6 (b:=B+1) (I n0) (I n1) (I n2) (I n3) (I n4) (I n5) (by omega)
 clear hE1 hE2 hBk hN4 hkE;have HG1:=hid hG1;have HG2:=hid hG2;have HG3:=hid hG3;have HGN:=hid hGN;have HkG:=hid hkG;clear hG1 hG2 hG3 hGN hkG
 go_upto_region 12 with fail
 exact zz131.down):p:=h
theorem c644 (h:p:=by
 generalize ((((((wc.setCell ⟨B+1,0,none⟩ (I n0)).setCell ⟨B+1,1,none⟩ (I n1)).setCell ⟨B+1,2,none⟩ (I n2)).setCell ⟨B+1,3,none⟩ (I n3)).setCell ⟨B+1,4,none⟩ (I n4)).setCell ⟨B+1,5,none⟩ (I n5))=w6 at*;clear m0 y0 f0 m1 y1 f1 m2 y2 f2 m3 y3 f3 m4 y4 f4 m5 y5 f5;have hN4:=HGN.out;have hE1:=HG1.out;have hE2:=HG2.out;have hBk:=HG3.out;have hkE:=HkG.out;clear HGN HG1 HG2 HG3 HkG
 have hw2:IntKind.i64.wrap ((a:Int)+1)=((a+1:Nat):Int):=by rw[IntWalk.i64_in _ (by omega)];omega
 have hlx:((cs).map (Value.int .u32)).length=cs.length:=by simp
 have zz163:=PLift.up @c765;exact c763):p:=h
theorem c645 (h:p:=by
 generalize ((((((w5.setCell ⟨B+1,0,none⟩ (I n0)).setCell ⟨B+1,1,none⟩ (I n1)).setCell ⟨B+1,2,none⟩ (I n2)).setCell ⟨B+1,3,none⟩ (I n3)).setCell ⟨B+1,4,none⟩ (I n4)).setCell ⟨B+1,5,none⟩ (I n5))=w6 at*;clear m0 y0 f0 m1 y1 f1 m2 y2 f2 m3 y3 f3 m4 y4 f4 m5 y5 f5;have hN4:=HGN.out;have hE1:=HG1.out;have hE2:=HG2.out;have hBk:=HG3.out;have hkE:=HkG.out;clear HGN HG1 HG2 HG3 HkG
 have hw2:IntKind.i64.wrap ((a:Int)+1)=((a+1:Nat):Int):=by rw[IntWalk.i64_in _ (by omega)];omega
 have hlx:((cs.set a (t:Int)).map (Value.int .u32)).length=cs.length:=by simp
 have zz163:=PLift.up @c766;exact c763):p:=h
theorem c646 (h:p:=by
 have zz168:=PLift.up @c783;exact c781):p:=h
theorem c647 (h:p:=by
 have zz81:=PLift.up @c469;exact c468):p:=h
theorem c648 (h:p:=by
 exact zz12.down):p:=h
theorem c649 (h:p:=by
 rw[ho2];clear ho2;have hc1:=(hD6).b1;unfold WrM.vals at hc1;dsimp only at hc1;obtain⟨y0,y1,y2,y3,y4,y5,y6,y7,y8⟩:=hc1.c9;have hz:=(hD6).b3;unfold zer9 at hz;obtain⟨z0,z1,z2,z3,z4,z5,z6,z7,z8⟩:=hz.c9;have f:=hz.free;clear hc1 hz;have hcc:=(hD6).b0;rw[Hcli.out]at hcc;obtain⟨c0,c1,c2,c3,c4,c5,c6,c7,c8,c9⟩:=hcc.c10;clear hcc;have hnp:=needsP_pos p all 0 zero6 (Int.le_refl _) (all_six (by decide) (by decide) (by decide) (by decide) (by decide) (by decide))
 rw[Hnd.out]at hnp;dsimp only at hnp;obtain⟨hnp,hf0,hf1⟩:=hnp;have hw4:IntKind.i64.wrap (terms-wt)=terms-wt:=IntWalk.i64_in _ (by omega)
 rw[Hcte.out]at hfr;exact zz133.down):p:=h
theorem c650 (h:p:=by
 have hpc:=hP6;unfold PlanM.flat at hpc;obtain⟨g0,g1,g2,g3,g4,g5,g6,g7,g8,g9,g10,g11,g12,g13,g14⟩:=hpc.c15;clear hpc;obtain⟨n0,n1,n2,n3,n4,n5⟩:=hM0.c6;have hfit:=fits_prog6 p ⟨u0,u1,u2,u3,u4,u5⟩ ⟨m0,m1,m2,m3,m4,m5⟩ w9 (fun k hk=>by have h1:=Hpf.out.g k hk;have h2:=Hu.out.g6 k hk;exact⟨h2.1,h2.2,h1.2,hnp k hk⟩)
 rw[hfi]at hfit;unfold PlanM.val V6.val at hfit;dsimp only at hfit;have HD6:=hid hD6;have HP6:=hid hP6;have HT6:=hid hT6;have HL6:=hid hL6;have HM0:=hid hM0;have Hz9:=hid hz9;have Hka:=hid hka;have Hnp:=hid hnp;have Hf1:=hid hf1;have Hfit:=hid hfit;clear hD6 hP6 hT6 hL6 hM0 hz9 hka hnp hf1 hfit
 go_wp2_with fail
 refine Hfit.out.mono ?_;rintro e w10 ⟨rfl,hk10⟩;have hD7:=HD6.out.below hk10;have hP7:=HP6.out.keep hk10 HP6.out.lt;have hT7:=own_of_keep HT6.out hk10 fun b hb=>own_ne HT6.out b hb;have hL7:TermOwn w10 (fun b=>K b∨(B≤b∧b<B4)) (.slice LA all.length lc) all:=⟨own_of_keep HL6.out.1 hk10 fun b hb=>own_ne HL6.out.1 b hb,HL6.out.2⟩;clear g0 g1 g2 g3 g4 g5 g6 g7 g8 g9 g10 g11 g12 g13 g14 n0 n1 n2 n3 n4 n5 c0 c1 c2 c3 c4 c5 c6 c7 c8 c9 HD6 HP6 HT6 HL6 Hfit y0 y1 y2 y3 y4 y5 y6 y7 y8 z0 z1 z2 z3 z4 z5 z6 z7 z8 f
 rw[Hcdo.out]at hwd;have hSC:=Hsl.out.keep hD7.kp fun b hb=>hb;have hcl:=seg_clone segs (some ⟨b0,o0,none⟩) cp w10 K (fun b hb=>by have h9:b<B:=Hltt.out b hb;have:=hD7.b0.lt;omega) hSC ⟨by have:=Hkl.out;omega,hn⟩
 have hc1:=(hD7).b1;unfold WrM.vals at hc1;dsimp only at hc1;obtain⟨y0,y1,y2,y3,y4,y5,y6,y7,y8⟩:=hc1.c9;have hz:=(hD7).b3;unfold zer9 at hz;obtain⟨z0,z1,z2,z3,z4,z5,z6,z7,z8⟩:=hz.c9;have f:=hz.free;clear hc1 hz;have HMB:=hid hMB;clear hMB hSC;have HD7:=hid hD7;have HP7:=hid hP7;have HT7:=hid hT7;have HL7:=hid hL7;have Hk10:=hid hk10;have Hcl:=hid hcl;have Hwd:=hid hwd
 clear hD7 hP7 hT7 hL7 hk10 hcl hwd
 go_wp2_with fail
 refine Hcl.out.mono ?_;rintro e w11 ⟨cv,rfl,hco,hk11⟩;obtain⟨cg,cc,rfl⟩:=ownB_posS hco (by have:=Hkl.out;omega)
 have hcgl:=ownB_lt hco (b:=cg) rfl;have hka8:Keeps (· <w8.heap.size) w8 w11:=by
  have e1:=Hz9.out;have e2:=Hk10.out.size;have e3:=HMB.out;exact((Hka.out.mono fun b hb=>(by omega:b<MB)).trans (Hk10.out.mono fun b hb=>by omega)).trans (hk11.mono fun b hb=>by omega)
 have hA:=(HD5.out.more hka8).conv (G':=fun b=>((fun b=>K b∨(B≤b∧b<B4)) b∨(MB≤b∧b<w11.heap.size))∨(Value.slice LA all.length lc).ownBlock=some b) (fun b=>by
  rw[HMB.out]
  constructor
  ·rintro((h|h)|h)
   ·exact Or.inl (Or.inl h)
   ·exact Or.inr h
   ·exact Or.inl (Or.inr h)
  ·rintro((h|h)|h)
   ·exact Or.inl (Or.inl h)
   ·exact Or.inr h
   ·exact Or.inl (Or.inr h))
 have hP8:=HP7.out.keep hk11 HP7.out.lt;have hT8:=own_of_keep HT7.out hk11 fun b hb=>own_ne HT7.out b hb;have hL8:TermOwn w11 (fun b=>(fun b=>K b∨(B≤b∧b<B4)) b∨(MB≤b∧b<w11.heap.size)) (.slice LA all.length lc) all:=⟨own_of_keep HL7.out.1 hk11 fun b hb=>own_ne HL7.out.1 b hb,fun b hb hk=>hk.elim (HL7.out.2 b hb) (fun h=>by have:=own_ne HL5.out.1 b hb;have:=HMB.out;omega)⟩
 have hc8:w11.ownsRow 0 65 3 (.slice (some ⟨cg,0,none⟩) segs.length cc) segs.length (segs.flatMap SegM.cells):=⟨hco.1,hco.2.imp (fun h=>h) (fun⟨a,b,c,d⟩=>⟨a,b,c,d.1,Nat.zero_le _,d.2.2⟩)⟩;have HPB4:=hid (show B+1+1+1<PB∧PB<B4∧B4≤MB from⟨hPB,by omega,by have h1:=HL5.out;have h2:=HP5.out.lt;have h3:=HMB.out;omega⟩)
 have hcg9:MB≤cg∧cg<w11.heap.size:=⟨by have e1:=Hz9.out;have e2:=Hk10.out.size;omega,hcgl.2⟩
 generalize hM2:w11.heap.size=M2 at*;have Hcg:=hid hcg9;have Htg:=hid (show∀b,(Value.slice TA toks.length tc).ownBlock=some b→B≤b∧b<B4 from fun b hb=>⟨by have:=(htg b hb).1;omega,by have:=(htg b hb).2;omega⟩)
 have Htg2:=hid (show∀b,(Value.slice TA toks.length tc).ownBlock=some b→B+1+1+1<b from fun b hb=>(htg b hb).1)
 have hA9:=hA.seg (.slice (some ⟨cg,0,none⟩) segs.length cc) segs;dsimp only at hA9;have hkv:Keeps (· ≠B+1) w11 (w11.setCell ⟨B+1,0,none⟩ (.slice (some ⟨cg,0,none⟩) segs.length cc)):=(Keeps.refl _ _).setCell (p:=⟨B+1,0,none⟩) (fun h=>h rfl) _;have hP9:=hP8.keep hkv (by show PB≠B+1;omega)
 have hT9:=own_of_keep hT8 hkv fun b hb=>by have:=Htg2.out b hb;show b≠B+1;omega
 have hC9:=own_of_keep hc8 hkv fun b hb=>by injection hb with hb;subst hb;have:=HPB4.out;show cg≠B+1;omega
 have hL9:TermOwn (w11.setCell ⟨B+1,0,none⟩ (.slice (some ⟨cg,0,none⟩) segs.length cc)) (fun b=>(fun b=>K b∨(B≤b∧b<B4)) b∨(MB≤b∧b<M2)) (.slice LA all.length lc) all:=⟨own_of_keep hL8.1 hkv fun b hb=>by have h8:=hL8.2 b hb;show b≠B+1;intro e;subst e;exact h8 (Or.inl (Or.inr ⟨by omega,by omega⟩)),hL8.2⟩
 clear y0 y1 y2 y3 y4 y5 y6 y7 y8 z0 z1 z2 z3 z4 z5 z6 z7 z8 f;have hc1:=hA.b1;unfold WrM.vals at hc1;dsimp only at hc1;obtain⟨y0,y1,y2,y3,y4,y5,y6,y7,y8⟩:=hc1.c9;have f0:=hc1.free 0;clear hc1;clear hA hP8 hT8 hL8 hc8 hkv hka8 hcgl hcg9 hk11 hco htg HD5 HP5 HT5 HL5 HkD5 HM0 Hka Hk10 HD7 HP7 HT7 HL7 Hcl HMB Hz9 hM2 hz3 hPB hPP hB4 hBB;have hUs:=Hu.out;have hTLs:∀t∈all,U32 t.tl:=fun t ht=>(Hts.out.t t ht).1
 have HA9:=hid hA9;have HP9:=hid hP9;have HT9:=hid hT9;have HC9:=hid hC9;have HL9:=hid hL9;have HUs:=hid hUs;have HTLs:=hid hTLs;clear hA9 hP9 hT9 hC9 hL9 hUs hTLs
 go_wp2_with fail
 clear y0 y1 y2 y3 y4 y5 y6 y7 y8 f0
 go_loopw[123] (fun iv wx=>∃(i:Nat) (al:List TermM) (v0 v1 v2 v3 v4 v5:Int) (sx:St),iv=I (i:Int)∧i≤toks.length∧Hid ((wordsT p (lb+4*docs) p.slots.toNat (ld:Int) (toks.drop i) al ⟨v0,v1,v2,v3,v4,v5⟩).exec sx=((all',u'),sz))∧Hid (A1 w wx K (fun b=>(fun b=>(fun b=>K b∨(B≤b∧b<B4)) b∨(MB≤b∧b<M2)) b∨(Value.slice LA all.length lc).ownBlock=some b) r m c B cf ⟨segs,wt,wv,⟨v0,v1,v2,v3,v4,v5⟩⟩ (.slice (some ⟨cg,0,none⟩) segs.length cc) [J id,.slice FA fs.length fc] sx)∧Hid (Blk wx PB p.flat)∧Hid (wx.ownsRow 0 128 3 (.slice TA toks.length tc) toks.length (toks.flatMap tokI))∧Hid (wx.ownsRow 0 65 3 (.slice (some ⟨cg,0,none⟩) segs.length cc) segs.length (segs.flatMap SegM.cells))∧Hid (TermOwn wx (fun b=>(fun b=>K b∨(B≤b∧b<B4)) b∨(MB≤b∧b<M2)) (.slice LA al.length lc) al)∧Hid (UIn p ⟨v0,v1,v2,v3,v4,v5⟩)∧Hid (∀t∈al,U32 t.tl)∧Hid (al.map (·.key)=all.map (·.key))) (fun iv _=>toks.length-(intOf iv).toNat)
 case atStart=>exact⟨0,all,u0,u1,u2,u3,u4,u5,sy,rfl,Nat.zero_le _,Hwd,HA9,HP9,HT9,HC9,HL9,HUs,HTLs,hid rfl⟩
 case round=>
  clear HA9 HP9 HT9 HC9 HL9 HUs HTLs Hwd;obtain⟨i,al,v0,v1,v2,v3,v4,v5,sx,rfl,hi9,HX,HA,HP,HTO,HCO,HLO,HU,HTL,HKM⟩:=hrel
  by_cases hlt:i<toks.length
  ·have hltI:(i:Int)<(toks.length:Int):=by omega
   obtain⟨x,hx⟩:∃x,toks[i]? =some x:=⟨_,List.getElem?_eq_getElem hlt⟩;obtain⟨tg,rfl,gt⟩:=own_rec tokI_len HTO.out hx;obtain⟨⟨tf0,tf1⟩,tf2⟩:=Htsm.out.1 x (List.mem_of_getElem? hx);have hfx:=hasK_map (Htk2.out x (List.mem_of_getElem? hx)) HKM.out;obtain⟨t0,ht0x⟩:=hfx.ix;have hlen:al.length=all.length:=by have:=congrArg List.length HKM.out;simpa using this
   have hex:=HX.out;rw[show toks.drop i=x::toks.drop (i+1) by
    obtain⟨h9,h8⟩:=List.getElem?_eq_some_iff.1 hx;rw[List.drop_eq_getElem_cons h9,h8],wordsT_cons]at hex
   have hwok:=wordT_ok (p:=p) (s0:=lb+4*docs) (d:=(ld:Int)) (n:=p.slots.toNat) (x:=x) (all:=al) (u:=⟨v0,v1,v2,v3,v4,v5⟩) (s:=sx) Hpf.out.wf HU.out HTL.out;obtain⟨xf,xt,xp⟩:=x;have a0:=gt 0 _ (by decide) rfl
   have a1:=gt 1 _ (by decide) rfl
   have a2:=gt 2 _ (by decide) rfl
   simp only[Nat.add_zero]at a0;clear gt hfx HX;dsimp only at tf0 tf1 tf2 ht0x;have Hx:=hid hx;have Hex:=hid hex;have Hwok:=hid hwok;have Hlen:=hid hlen;have Ht0x:=hid ht0x;clear hx hex hwok hlen ht0x
   go_upto_region 14 with fail
   refine wp_gen (fun W3=>(∃W2,wr=W2∧W3=W2.alloc (.cells #[.int .u8 xf,.string xt,I xp] 128))) ⟨wr,rfl,rfl⟩ (fun wb hwb=>?_);obtain⟨_,rfl,hwb⟩:=hwb;have hka:Keeps (· <wr.heap.size) wr wb:=by rw[hwb];exact(Keeps.refl _ _).alloc (fun b hb=>hb) _
   have hTB:Blk wb wr.heap.size [.int .u8 xf,.string xt,I xp]:=by rw[hwb];exact Blk.new wr _ _
   have hzb:wb.heap.size=wr.heap.size+1:=by rw[hwb];exact World.size_alloc _ _
   have hA1:=HA.out.more hka;rw[hzb]at hA1;have hP1:=HP.out.keep hka HP.out.lt;have hTO1:=own_of_keep HTO.out hka fun b hb=>own_ne HTO.out b hb;have hCO1:=own_of_keep HCO.out hka fun b hb=>own_ne HCO.out b hb;have hown:∀b,(Value.slice LA all.length lc).ownBlock=some b→b<wr.heap.size:=fun b hb=>by have h9:=own_ne HLO.out.1 b (by rw[Hlen.out];exact hb);exact h9
   have hLO1:TermOwn wb (fun b=>(fun b=>(fun b=>K b∨(B≤b∧b<B4)) b∨(MB≤b∧b<M2)) b∨b=wr.heap.size) (.slice LA al.length lc) al:=⟨own_of_keep HLO.out.1 hka fun b hb=>own_ne HLO.out.1 b hb,fun b hb hk=>hk.elim (fun h=>HLO.out.2 b hb h) (fun h=>by have:=own_ne HLO.out.1 b hb;omega)⟩
   have hA2:=hA1.conv (G':=fun b=>((fun b=>(fun b=>K b∨(B≤b∧b<B4)) b∨(MB≤b∧b<M2)) b∨b=wr.heap.size)∨(Value.slice LA all.length lc).ownBlock=some b) (fun b=>by
    constructor
    ·rintro((h|h)|h)
     ·exact Or.inl (Or.inl h)
     ·exact Or.inr ⟨by omega,by omega⟩
     ·exact Or.inl (Or.inr h)
    ·rintro((h|h)|h)
     ·exact Or.inl (Or.inl h)
     ·exact Or.inr h
     ·exact Or.inl (Or.inr (by omega)))
   have hgTB:cg<wr.heap.size:=own_ne HCO.out cg rfl;generalize hTBe:wr.heap.size=TB at*;clear hka hwb hA1 a0 a1 a2 HA HP HCO;have HTB:=hid hTB;have HA2:=hid hA2;have HP1:=hid hP1;have HTO1:=hid hTO1;have HCO1:=hid hCO1;have Hown:=hid hown;have HLO1:=hid hLO1;have Hzb:=hid hzb;have HTBe:=hid hTBe;have HgTB:=hid hgTB;clear hTB hA2 hP1 hTO1 hCO1 hown hLO1 hzb hTBe hgTB;clear HTO HLO
   obtain⟨g',eg,gs⟩:=own_rec (fun x:SegM=>(rfl:x.cells.length=3)) HCO1.out Hlx.out;injection eg with eg;injection eg with eg;subst eg
   have s1:=gs 1 _ (by decide) rfl
   clear gs;have hc1:=HA2.out.b1;have zz126:=PLift.up @c628;exact c627
  ·obtain rfl:i=toks.length:=by omega
   have hltI:¬(toks.length:Int)<(toks.length:Int):=by omega
   have hex:=HX.out;rw[List.drop_length]at hex;have hex:((al,⟨v0,v1,v2,v3,v4,v5⟩),sx)=((all',u'),sz):=hex;injection hex with hex1 hex2
   injection hex1 with hex1 hex3
   subst hex1 hex2;have HUE:=hid hex3;clear hex3 HX;have hw5:IntKind.u32.wrap (wv+1)=wv+1:=IntWalk.u32_in _ (by omega)
   have hc1:=HA.out.b1;unfold WrM.vals at hc1;dsimp only at hc1;obtain⟨y0,y1,y2,y3,y4,y5,y6,y7,y8⟩:=hc1.c9;have f2:=hc1.free 2;have hA2:=HA.out.ver (wv+1);dsimp only at hA2;have hkv:Keeps (· ≠B+1) wr (wr.setCell ⟨B+1,2,none⟩ (J (wv+1))):=(Keeps.refl _ _).setCell (p:=⟨B+1,2,none⟩) (fun h=>h rfl) _;have hTO2:=own_of_keep HTO.out hkv fun b hb=>by have:=Htg2.out b hb;show b≠B+1;omega
   have hCO2:=own_of_keep HCO.out hkv fun b hb=>by injection hb with hb;subst hb;have:=Hcg.out;have:=HPB4.out;show cg≠B+1;omega
   clear hc1;have HA2:=hid hA2;have HTO2:=hid hTO2;have HCO2:=hid hCO2;clear hA2 hTO2 hCO2
   go_upto_region 17 with fail
   generalize wr.setCell ⟨B+1,2,none⟩ (J (wv+1))=wf at*;clear y0 y1 y2 y3 y4 y5 y6 y7 y8 f2 hkv HA HP HTO HCO HLO;obtain⟨g',eg,gs⟩:=own_rec (fun x:SegM=>(rfl:x.cells.length=3)) HCO2.out Hlx.out;injection eg with eg;injection eg with eg;subst eg
   have a0:=gs 0 _ (by decide) rfl
   have a1:=gs 1 _ (by decide) rfl
   have a2:=gs 2 _ (by decide) rfl
   simp only[Nat.add_zero]at a0;clear gs;have hc1:=HA2.out.b1;unfold WrM.vals at hc1;dsimp only at hc1;have c2:=hc1.cell 2;have d0:=HA2.out.b2.cell 0;simp only[List.getElem?_cons_zero,List.getElem?_cons_succ]at c2 d0;have hlg:cg<wf.heap.size:=own_ne HCO2.out cg rfl;have hl1:=HA2.out.b1.lt;have hl2:=HA2.out.b2.lt;have q0:=fun q:KC (· <wf.heap.size) wf=>q.cell hlg a0;have q1:=fun q:KC (· <wf.heap.size) wf=>q.cell hlg a1
   have q2:=fun q:KC (· <wf.heap.size) wf=>q.cell hlg a2;have q3:=fun q:KC (· <wf.heap.size) wf=>q.cell hl1 c2;have q4:=fun q:KC (· <wf.heap.size) wf=>q.cell hl2 d0;have hBase:=fun W'=>write_base ⟨la,ld,ls⟩ W' (by have h9:=Hlo.out;(try dsimp only at h9);show Small la;unfold Small;omega)
   rw[HLBE.out]at hBase;have hbq:=fun q:KC (· <wf.heap.size) wf=>q.calls ((hBase q.w).mono fun e w' h=>⟨h.1,h.2.mono fun b hb=>Nat.lt_of_lt_of_le hb q.k.size⟩);have HBQ:=hid hbq;clear hbq hBase hc1;have hw6:IntKind.u32.wrap (toks.length:Int)=(toks.length:Int):=IntWalk.u32_in _ (by omega)
   refine wp_region_kc_tail (· <wf.heap.size) 16 (by kernel_rfl) (by kernel_rfl) ?_
   simp only[List.take_succ_cons,List.take_zero,List.drop_succ_cons,List.drop_zero]
   repeat(go_big_quiet_step (exact HBQ.out _))
   refine wpQuiet_nil ?_;rintro wg ⟨⟨_,hkg⟩,rfl⟩;have hA3:=HA2.out.below hkg;have hCO3:=own_of_keep HCO2.out hkg fun b hb=>own_ne HCO2.out b hb;clear q0 q1 q2 q3 q4 a0 a1 a2 c2 d0 hlg hl1 hl2 HBQ HA2 HTO2 HCO2 hkg;have HA3:=hid hA3;have HCO3:=hid hCO3;clear hA3 hCO3
   go_wp2_with fail
   refine(table_lay HA3.out.rm lb (ld:Int) id (toks.length:Int) (wv+1) (by unfold Small;omega) (by unfold Small;omega) hi (by unfold U32;omega) (by unfold U32;omega)).mono ?_
   rintro e wh ⟨rfl,hrh,hkh⟩;have hA4:=HA3.out.keep hrh hkh;have hCO4:=own_of_keep HCO3.out hkh fun b hb=>Or.inl (Or.inr (by injection hb with hb;subst hb;exact Hcg.out))
   clear HA3 HCO3 hrh hkh;have hc1:=hA4.b1;have zz126:=PLift.up @c629;exact c627):p:=h
theorem c651 (h:p:=by
 exact zz1.down):p:=h
theorem c652 (h:p:=by
 rw[Hb6.out];simp only[baseC,szC]at hD1;have hal:ConfM.all ⟨docs,terms,s0,s1,s2,s3,book,room,kk,bb⟩=3+4*s0+16*s1+64*s2+256*s3+book+room:=rfl;generalize ConfM.all ⟨docs,terms,s0,s1,s2,s3,book,room,kk,bb⟩=al at*;have Hal:=hid hal;clear hal;obtain⟨c0,c1⟩:=hC0.c2;obtain⟨p0,p1,p2,p3,p4,p5,p6,p7,p8,p9,p10,p11,p12,p13,p14⟩:=hD1.c15
 have f1:=hD1.free;have f2:=hD2.free;obtain⟨z0,z1,z2,z3,z4,z5,z6,z7,z8,z9,z10,z11,z12,z13,z14⟩:=hD2.c15;exact zz134.down):p:=h
theorem c653 (h:p:=by
 go_wp2_with fail
 refine bp_gen (fun W=>Blk W (b+1) [I (3),I (3+4*s0),I (3+4*s0+16*s1),I (3+4*s0+16*s1+64*s2),I (3+4*s0+16*s1+64*s2+256*s3),I (3+4*s0+16*s1+64*s2+256*s3+book),I (4*s0),I (16*s1),I (64*s2),I (256*s3),I book,I room,I al,I 128,I (1+4*docs+128)]∧Keeps (· <b) w W) ⟨?_,?_⟩ ?_
 ·exact c62
 ·exact kA
 have zz164:=PLift.up @c770;exact c767):p:=h
theorem c654 (h:p:=by
 exact zz94.down):p:=h
theorem c655 (h:p:=by
 generalize C.plan=p at*;have hcfl:∃docs terms q0 q1 q2 q3 book room kk bb,C=⟨docs,terms,q0,q1,q2,q3,book,room,kk,bb⟩:=⟨_,_,_,_,_,_,_,_,_,_,rfl⟩;obtain⟨docs,terms,q0,q1,q2,q3,book,room,kk,bb,hcfe⟩:=hcfl;have hcli:C.list=[I docs,I terms,I q0,I q1,I q2,I q3,I book,I room,kk,bb]:=by rw[hcfe];rfl
 have Hcfe:=hid hcfe;clear hcfe;rw[hcli]at hnew href;have HNEW:=hid hnew;have HREF:=hid href;have HT:=hid hT;exact zz135.down):p:=h
theorem c656 (h:p:=by
 clear hnew href hT;have zz9:=PLift.up @c171;exact c170):p:=h
theorem c657 (h:p:=by
 have HK0:=hid hk0;clear hnew href hT hk0;have zz9:=PLift.up @c172;exact c170):p:=h
theorem c658 (h:p:=by
 have hltI:¬(fs.length:Int)<(fs.length:Int):=by omega
 have hno:=HN.out;rw[List.take_length]at hno;clear HN;have hlong:longF fs=false:=by unfold longF;rw[hno];simp[hl4]
 have hsm:∀s∈fs,s.size≤512:=fun s hs=>by
  have:=List.any_eq_false.1 hno s hs
  simpa using this
 clear hno;have Hlong:=hid hlong;have Hsm:=hid hsm;clear hlong hsm
 go_wp2_with fail
 have hlenfs:fs.length≤4:=by omega
 clear hltI hi hl4I;exact zz136.down):p:=h
theorem c659 (h:p:=by
 go_loopw[4,6,7,27] (fun ov _ _ iv wx=>∃(i:Nat) (acc:List TokI) (A':Option Addr) (cp':Nat),ov= .slice A' acc.length cp'∧iv=I (i:Int)∧i≤fs.length∧acc.length≤600*i∧Hid (acc++toksL i (fs.drop i)=toksL 0 fs)∧
  Hid (TokOwn wx (· <WB) (.slice A' acc.length cp') acc)∧Hid (Keeps (· <WB) w wx)) (fun _ _ _ iv _=>fs.length-(intOf iv).toNat)
 case atStart=>exact⟨0,[],some ⟨WB,0,none⟩,0,rfl,rfl,Nat.zero_le _,Nat.zero_le _,hid rfl,hid ⟨own_any Hown0.out,fun b hb hk=>by have hb:some WB=some b:=hb;injection hb with hb;subst hb;exact Nat.lt_irrefl _ hk⟩,Hka⟩
 case round=>
  obtain⟨i,acc,A',cp',rfl,rfl,hi,hal,HE,HO,HK⟩:=hrel
  by_cases hlt2:i<fs.length
  ·have hltI2:(i:Int)<(fs.length:Int):=by omega
   have zz89:=PLift.up @c493;exact c492
  ·exact c36):p:=h
theorem c660 (h:p:=by
 go_loopw[6,26] (fun ov iv wx=>∃(i:Nat) (acc:List TokI) (A':Option Addr) (cp':Nat),ov= .slice A' acc.length cp'∧iv=I (i:Int)∧i≤fs.length∧acc.length≤600*i∧Hid (acc++toksL i (fs.drop i)=toksL 0 fs)∧
  Hid (TokOwn wx (· <w.heap.size) (.slice A' acc.length cp') acc)∧Hid (Keeps (· <w.heap.size) w wx)) (fun _ iv _=>fs.length-(intOf iv).toNat)
 case atStart=>exact⟨0,[],none,0,rfl,rfl,Nat.zero_le _,Nat.zero_le _,hid rfl,hid ⟨World.ownsRow_nil _ _ _ _,fun b hb=>by cases hb⟩,hid (Keeps.refl _ _)⟩
 case round=>
  obtain⟨i,acc,A',cp',rfl,rfl,hi,hal,HE,HO,HK⟩:=hrel
  by_cases hlt2:i<fs.length
  ·have hltI2:(i:Int)<(fs.length:Int):=by omega
   have zz89:=PLift.up @c494;exact c492
  ·exact c36):p:=h
theorem c661 (h:p:=by
 have hz:=HZ.out;obtain⟨z0,z1,z2,z3,z4,z5,z6,z7,z8,z9,z10,z11,z12,z13,z14⟩:=hz.c15;have fz0:=hz.free 0;have fz1:=hz.free 1;have fz2:=hz.free 2;have fz3:=hz.free 3;have fz4:=hz.free 4;have fz5:=hz.free 5;have fz6:=hz.free 6;have fz7:=hz.free 7;have fz8:=hz.free 8;have fz9:=hz.free 9;have fz10:=hz.free 10;have fz11:=hz.free 11;have fz12:=hz.free 12;have fz13:=hz.free 13
 have fz14:=hz.free 14;exact zz137.down):p:=h
theorem c662 (h:p:=by
 clear hc
 go_wp2_with (go_at_call 68;first|(with_reducible refine(Hs.out _).mono ?_;rintro e w9 ⟨rfl,rfl⟩))
 have zz161:=PLift.up @c758;exact c757):p:=h
theorem c663 (h:p:=by
 clear hp
 go_wp2_with fail
 have zz161:=PLift.up @c759;exact c757):p:=h
theorem c664 (h:p:=by
 clear hz;have Hst:=hid hst;have Hkk:=hid hkk;have HZ2:=hid hZ2;have Hsv:=hid hsv;have Hvt:=hid hvt;clear hst hkk hZ2 hsv hvt
 go_wp2_with fail
 have hD:=HZ2.out.set15 (I (3)) (I (3+s0*4)) (I (3+s0*4+s1*16)) (I (3+s0*4+s1*16+s2*64)) (I (3+s0*4+s1*16+s2*64+s3*256)) (I (3+s0*4+s1*16+s2*64+s3*256+book)) (I (s0*4)) (I (s1*16)) (I (s2*64)) (I (s3*256)) (I (book)) (I (room)) (I (3+s0*4+s1*16+s2*64+s3*256+book+room)) (I v) (I (1+4*docs+v)) rfl;have hkk:=Hkk.out.set15 (b:=B+1) (nb1 B) (I (3)) (I (3+s0*4)) (I (3+s0*4+s1*16)) (I (3+s0*4+s1*16+s2*64)) (I (3+s0*4+s1*16+s2*64+s3*256)) (I (3+s0*4+s1*16+s2*64+s3*256+book)) (I (s0*4)) (I (s1*16)) (I (s2*64)) (I (s3*256)) (I (book)) (I (room)) (I (3+s0*4+s1*16+s2*64+s3*256+book+room)) (I v) (I (1+4*docs+v))
 clear z0 fz0 z1 fz1 z2 fz2 z3 fz3 z4 fz4 z5 fz5 z6 fz6 z7 fz7 z8 fz8 z9 fz9 z10 fz10 z11 fz11 z12 fz12 z13 fz13 z14 fz14 c0 c1 c2 c3 c4 c5 c6 c7 c8 c9 p0 p1 p2 p3 p4 p5 p6 p7 p8 p9 p10 p11 p12 p13 p14 f13 f14 hw1 hw2 hw3;generalize ((((((((((((((((wy.setCell ⟨B+1+1,14,none⟩ (I (1+4*docs+v))).setCell ⟨B+1,0,none⟩ (I (3))).setCell ⟨B+1,1,none⟩ (I (3+s0*4))).setCell ⟨B+1,2,none⟩ (I (3+s0*4+s1*16))).setCell ⟨B+1,3,none⟩ (I (3+s0*4+s1*16+s2*64))).setCell ⟨B+1,4,none⟩ (I (3+s0*4+s1*16+s2*64+s3*256))).setCell ⟨B+1,5,none⟩ (I (3+s0*4+s1*16+s2*64+s3*256+book))).setCell ⟨B+1,6,none⟩ (I (s0*4))).setCell ⟨B+1,7,none⟩ (I (s1*16))).setCell ⟨B+1,8,none⟩ (I (s2*64))).setCell ⟨B+1,9,none⟩ (I (s3*256))).setCell ⟨B+1,10,none⟩ (I (book))).setCell ⟨B+1,11,none⟩ (I (room))).setCell ⟨B+1,12,none⟩ (I (3+s0*4+s1*16+s2*64+s3*256+book+room))).setCell ⟨B+1,13,none⟩ (I v)).setCell ⟨B+1,14,none⟩ (I (1+4*docs+v)))=WZ at*
 obtain⟨d0,d1,d2,d3,d4,d5,d6,d7,d8,d9,d10,d11,d12,d13,d14⟩:=hD.c15;refine bodyPost_ret (v:= .tuple #[.agg #[I (3),I (3+s0*4),I (3+s0*4+s1*16),I (3+s0*4+s1*16+s2*64),I (3+s0*4+s1*16+s2*64+s3*256),I (3+s0*4+s1*16+s2*64+s3*256+book),I (s0*4),I (s1*16),I (s2*64),I (s3*256),I (book),I (room),I (3+s0*4+s1*16+s2*64+s3*256+book+room),I v,I (1+4*docs+v)],I 0]) ?_ rfl ?_
 ·exact c630
 ·exact hR'.out _ _ ⟨⟨v,Hsv.out,by have:=Hvt.out;omega,rfl⟩,hkk⟩):p:=h
theorem c665 (h:p:=by
 obtain⟨NB,rfl,hnb0,hNB,hk9⟩:=hcut;have hMa:=HM8.out.keep hk9 HM8.out.lt;have hKa:=HK8.out.trans (hk9.mono fun b hb=>by have hb:b<MB:=hb;omega)
 have hMN:MB<NB:=by omega
 clear HS8 HM8 HK8 HSS HTA HTB hk9 a1 hneB hneC hlB2 g0 g1 g2 g3 g4 g5 g6 g7 g8 g9 g10 g11 g12 g13 g14;have HNB:=hid hNB;have HMa:=hid hMa;have HKa:=hid hKa;clear hNB hMa hKa
 go_wp2_with fail
 exact zz138.down):p:=h
theorem c666 (h:p:=by
 go_loopw[27] (fun kv wx=>∃(k:Nat),kv=I (k:Int)∧k≤6∧Hid (Blk wx MB (upK ⟨x0,x1,x2,x3,x4,x5⟩ ⟨n0,n1,n2,n3,n4,n5⟩ k))∧Hid (Blk wx NB [I n0,I n1,I n2,I n3,I n4,I n5])∧Hid (Keeps (fun b=>b<MB) w5 wx)∧MB<wx.heap.size) (fun kv _=>6-(intOf kv).toNat)
 case atStart=>exact⟨0,rfl,by decide,HMa,HNB,HKa,HMa.out.lt⟩
 case round=>
  clear HMa HNB HKa;obtain⟨k,rfl,hk6,HM,HNB,HK,hsx⟩:=hrel;have hkc:k=0∨k=1∨k=2∨k=3∨k=4∨k=5∨k=6:=by omega
  rcases hkc with rfl|rfl|rfl|rfl|rfl|rfl|rfl
  ·have hm:Blk wr MB [I x0,I x1,I x2,I x3,I x4,I x5]:=HM.out;have zz96:=PLift.up @c514;exact c513
  ·have hm:Blk wr MB [I (x0+n0),I x1,I x2,I x3,I x4,I x5]:=HM.out;have zz97:=PLift.up @c517;exact c516
  ·have hm:Blk wr MB [I (x0+n0),I (x1+n1),I x2,I x3,I x4,I x5]:=HM.out;have zz98:=PLift.up @c520;exact c519
  ·have hm:Blk wr MB [I (x0+n0),I (x1+n1),I (x2+n2),I x3,I x4,I x5]:=HM.out;have zz99:=PLift.up @c523;exact c522
  ·have hm:Blk wr MB [I (x0+n0),I (x1+n1),I (x2+n2),I (x3+n3),I x4,I x5]:=HM.out;have hst:=hm.set 4 (I (x4+n4));have hkn:Keeps (· ≠MB) wr (wr.setCell ⟨MB,4,none⟩ (I (x4+n4))):=(Keeps.refl _ _).setCell (p:=⟨MB,4,none⟩) (fun h=>h rfl) _;have hnb9:=HNB.out.keep hkn (by show NB≠MB;omega)
   have hkk:=HK.out.trans (hkn.mono fun b hb=>by have hb:b<MB:=hb;show b≠MB;omega)
   have hfz:=hm.free 4;have hww:IntKind.i64.wrap (x4+n4)=x4+n4:=IntWalk.i64_in _ (by omega)
   have c0:=hm.cell 4;have c1:=HNB.out.cell 4;have zz58:=PLift.up @c339;exact c334
  ·have hm:Blk wr MB [I (x0+n0),I (x1+n1),I (x2+n2),I (x3+n3),I (x4+n4),I x5]:=HM.out;have zz100:=PLift.up @c526;exact c525
  ·have hm:Blk wr MB (V6.list6 ⟨(x0+n0),(x1+n1),(x2+n2),(x3+n3),(x4+n4),(x5+n5)⟩):=HM.out;have hmi2:(⟨(x0+n0),(x1+n1),(x2+n2),(x3+n3),(x4+n4),(x5+n5)⟩:V6).in (20000*((i+1:Nat):Int)):=by
    unfold V6.in;dsimp only
    omega
   clear HM HNB;have Hm:=hid hm;have Hmi2:=hid hmi2;clear hm hmi2
   go_wp2_with fail
   go_roundw
   case rel=>exact⟨i+1,fr9,⟨(x0+n0),(x1+n1),(x2+n2),(x3+n3),(x4+n4),(x5+n5)⟩,by first|rfl|go_num,by go_num,by omega,⟨by omega,by omega⟩,Hmi2.out,Hnx,Hm,HK,hsx⟩
   case measure=>exact msA):p:=h
theorem c667 (h:p:=by
 go_loopw[27] (fun kv wx=>∃(k:Nat),kv=I (k:Int)∧k≤6∧Hid (Blk wx MB (upK ⟨x0,x1,x2,x3,(x4+(2+(cc:Int))),x5⟩ ⟨n0,n1,n2,n3,n4,n5⟩ k))∧Hid (Blk wx NB [I n0,I n1,I n2,I n3,I n4,I n5])∧Hid (Keeps (fun b=>b<MB) w5 wx)∧MB<wx.heap.size) (fun kv _=>6-(intOf kv).toNat)
 case atStart=>exact⟨0,rfl,by decide,HMa,HNB,HKa,HMa.out.lt⟩
 case round=>
  clear HMa HNB HKa;obtain⟨k,rfl,hk6,HM,HNB,HK,hsx⟩:=hrel;have hkc:k=0∨k=1∨k=2∨k=3∨k=4∨k=5∨k=6:=by omega
  rcases hkc with rfl|rfl|rfl|rfl|rfl|rfl|rfl
  ·have hm:Blk wr MB [I x0,I x1,I x2,I x3,I (x4+(2+(cc:Int))),I x5]:=HM.out;have zz96:=PLift.up @c515;exact c513
  ·have hm:Blk wr MB [I (x0+n0),I x1,I x2,I x3,I (x4+(2+(cc:Int))),I x5]:=HM.out;have zz97:=PLift.up @c518;exact c516
  ·have hm:Blk wr MB [I (x0+n0),I (x1+n1),I x2,I x3,I (x4+(2+(cc:Int))),I x5]:=HM.out;have zz98:=PLift.up @c521;exact c519
  ·have hm:Blk wr MB [I (x0+n0),I (x1+n1),I (x2+n2),I x3,I (x4+(2+(cc:Int))),I x5]:=HM.out;have zz99:=PLift.up @c524;exact c522
  ·have hm:Blk wr MB [I (x0+n0),I (x1+n1),I (x2+n2),I (x3+n3),I (x4+(2+(cc:Int))),I x5]:=HM.out;have hst:=hm.set 4 (I ((x4+(2+(cc:Int)))+n4));have hkn:Keeps (· ≠MB) wr (wr.setCell ⟨MB,4,none⟩ (I ((x4+(2+(cc:Int)))+n4))):=(Keeps.refl _ _).setCell (p:=⟨MB,4,none⟩) (fun h=>h rfl) _;have hnb9:=HNB.out.keep hkn (by show NB≠MB;omega)
   have hkk:=HK.out.trans (hkn.mono fun b hb=>by have hb:b<MB:=hb;show b≠MB;omega)
   have hfz:=hm.free 4;have hww:IntKind.i64.wrap ((x4+(2+(cc:Int)))+n4)=(x4+(2+(cc:Int)))+n4:=IntWalk.i64_in _ (by omega)
   have c0:=hm.cell 4;have c1:=HNB.out.cell 4;simp only[List.getElem?_cons_zero,List.getElem?_cons_succ]at c0 c1;clear hm HM HNB HK hkn;have Hst:=hid hst;have Hnb9:=hid hnb9;have Hkk:=hid hkk;clear hst hnb9 hkk
   go_upto_region 27 with fail
   go_region
   go_wp2_with fail
   exact c339
  ·have hm:Blk wr MB [I (x0+n0),I (x1+n1),I (x2+n2),I (x3+n3),I ((x4+(2+(cc:Int)))+n4),I x5]:=HM.out;have zz100:=PLift.up @c527;exact c525
  ·have hm:Blk wr MB (V6.list6 ⟨(x0+n0),(x1+n1),(x2+n2),(x3+n3),((x4+(2+(cc:Int)))+n4),(x5+n5)⟩):=HM.out;have hmi2:(⟨(x0+n0),(x1+n1),(x2+n2),(x3+n3),((x4+(2+(cc:Int)))+n4),(x5+n5)⟩:V6).in (20000*((i+1:Nat):Int)):=by
    unfold V6.in;dsimp only
    omega
   clear HM HNB;have Hm:=hid hm;have Hmi2:=hid hmi2;clear hm hmi2
   go_wp2_with fail
   go_roundw
   case rel=>exact⟨i+1,(fr9+1),⟨(x0+n0),(x1+n1),(x2+n2),(x3+n3),((x4+(2+(cc:Int)))+n4),(x5+n5)⟩,by first|rfl|go_num,by go_num,by omega,⟨by omega,by omega⟩,Hmi2.out,Hnx,Hm,HK,hsx⟩
   case measure=>exact msA):p:=h
theorem c668 (h:p:=by
 have Hbx:=hid hbx;have HsA:=hid hsA;have Hm12:=hid hm12;have Hkw2:=hid hkw2;have F1:=hid hf1;have F2:=hid hf2;clear hbx hsA hm12 hkw2 hf1 hf2;clear hSB2;have Hkx:=hid hkx;clear hkx
 go_upto_region 14 with fail
 obtain⟨lx,hby,hly⟩:=blk_x35 Hbx.out ⟨segs',t',v',⟨x0,x1,x2,x3,x4,x5⟩⟩ (.slice A3 cs'.length c3) (.slice A4 segs'.length c4);dsimp only at hby;exact zz139.down):p:=h
theorem c669 (h:p:=by
 have hky:=keeps_x35 w12 X (.slice A3 cs'.length c3) (.slice A4 segs'.length c4) (I t') (J v') (I x0) (I x1) (I x2) (I x3) (I x4) (I x5);generalize ((((((((((w12.setCell ⟨X,35,none⟩ (.slice A3 cs'.length c3)).setCell ⟨X,36,none⟩ (.slice A4 segs'.length c4)).setCell ⟨X,37,none⟩ (I t')).setCell ⟨X,38,none⟩ (J v')).setCell ⟨X,39,none⟩ (I x0)).setCell ⟨X,40,none⟩ (I x1)).setCell ⟨X,41,none⟩ (I x2)).setCell ⟨X,42,none⟩ (I x3)).setCell ⟨X,43,none⟩ (I x4)).setCell ⟨X,44,none⟩ (I x5))=w14 at*
 have zz88:=PLift.up @c490;exact c489):p:=h
theorem c670 (h:p:=by
 have hky:=keeps_x35 w11 X (.slice A3 cs'.length c3) (.slice A4 segs'.length c4) (I t') (J v') (I x0) (I x1) (I x2) (I x3) (I x4) (I x5);generalize ((((((((((w11.setCell ⟨X,35,none⟩ (.slice A3 cs'.length c3)).setCell ⟨X,36,none⟩ (.slice A4 segs'.length c4)).setCell ⟨X,37,none⟩ (I t')).setCell ⟨X,38,none⟩ (J v')).setCell ⟨X,39,none⟩ (I x0)).setCell ⟨X,40,none⟩ (I x1)).setCell ⟨X,41,none⟩ (I x2)).setCell ⟨X,42,none⟩ (I x3)).setCell ⟨X,43,none⟩ (I x4)).setCell ⟨X,44,none⟩ (I x5))=w14 at*
 have zz88:=PLift.up @c491;exact c489):p:=h
theorem c671 (h:p:=by
 have hz:=HB1.out;unfold st0 at hz;obtain⟨z0,z1,z2,z3,z4,z5,z6,z7,z8,z9⟩:=hz.c10;have f:=hz.free;clear hz;have hz:=HB2.out;unfold zp15 at hz;obtain⟨c0,c1,c2,c3,c4,c5,c6,c7,c8,c9,c10,c11,c12,c13,c14⟩:=hz.c15;have f2:=hz.free;clear hz
 go_region
 iterate 2 (first|go_values|go_skip|go_guarded|go_step|go_upon|go_back)
 go_step
 exact zz140.down):p:=h
theorem c672 (h:p:=by
 have hE:=blk_out10 HB1.out rfl (.slice none 0 0) (.slice none 0 0) (I 0) (J 0) (I 0) (I 0) (I 0) (I 0) (I 0) (I 0);have hkk:=keeps_out10 (b:=B+1) Hkw.out (fun h=>by have h:B+1<B:=h;omega) (.slice none 0 0) (.slice none 0 0) (I 0) (J 0) (I 0) (I 0) (I 0) (I 0) (I 0) (I 0)
 have hkn:=keeps_out10 (K:=(· ≠B+1)) (b:=B+1) (Keeps.refl _ w2) (fun h=>h rfl) (.slice none 0 0) (.slice none 0 0) (I 0) (J 0) (I 0) (I 0) (I 0) (I 0) (I 0) (I 0);have hB2:=HB2.out.keep hkn (by show B+1+1≠B+1;omega)
 clear z0 z1 z2 z3 z4 z5 z6 z7 z8 z9 f c0 c1 c2 c3 c4 c5 c6 c7 c8 c9 c10 c11 c12 c13 c14 f2 g0 g1 g2 g3 g4 g5 g6 g7 g8 g9 g10 g11 g12 g13 g14;generalize ((((((((((w2.setCell ⟨B+1,0,none⟩ (.slice none 0 0)).setCell ⟨B+1,1,none⟩ (.slice none 0 0)).setCell ⟨B+1,2,none⟩ (I 0)).setCell ⟨B+1,3,none⟩ (J 0)).setCell ⟨B+1,4,none⟩ (I 0)).setCell ⟨B+1,5,none⟩ (I 0)).setCell ⟨B+1,6,none⟩ (I 0)).setCell ⟨B+1,7,none⟩ (I 0)).setCell ⟨B+1,8,none⟩ (I 0)).setCell ⟨B+1,9,none⟩ (I 0))=WY at*
 have zz74:=PLift.up @c447;exact c446):p:=h
theorem c673 (h:p:=by
 have hE:=blk_out10 HB1.out rfl (.slice (some ⟨NB,0,none⟩) n n) (.slice (some ⟨GB,0,none⟩) 1 1) (I 0) (J 0) (I 0) (I 0) (I 0) (I 0) (I 0) (I ((lv:Int)+2));have hkk:=keeps_out10 (b:=B+1) Hkw.out (fun h=>by have h:B+1<B:=h;omega) (.slice (some ⟨NB,0,none⟩) n n) (.slice (some ⟨GB,0,none⟩) 1 1) (I 0) (J 0) (I 0) (I 0) (I 0) (I 0) (I 0) (I ((lv:Int)+2))
 have hkn:=keeps_out10 (K:=(· ≠B+1)) (b:=B+1) (Keeps.refl _ w8) (fun h=>h rfl) (.slice (some ⟨NB,0,none⟩) n n) (.slice (some ⟨GB,0,none⟩) 1 1) (I 0) (J 0) (I 0) (I 0) (I 0) (I 0) (I 0) (I ((lv:Int)+2));have hB2:=HB2.out.keep hkn (by show B+1+1≠B+1;omega)
 clear y0 y1 y2 y3 y4 y5 y6 y7 y8 y9 z0 z1 z2 z3 z4 z5 z6 z7 z8 z9 f c0 c1 c2 c3 c4 c5 c6 c7 c8 c9 c10 c11 c12 c13 c14 f2 g0 g1 g2 g3 g4 g5 g6 g7 g8 g9 g10 g11 g12 g13 g14;generalize ((((((((((w8.setCell ⟨B+1,0,none⟩ (.slice (some ⟨NB,0,none⟩) n n)).setCell ⟨B+1,1,none⟩ (.slice (some ⟨GB,0,none⟩) 1 1)).setCell ⟨B+1,2,none⟩ (I 0)).setCell ⟨B+1,3,none⟩ (J 0)).setCell ⟨B+1,4,none⟩ (I 0)).setCell ⟨B+1,5,none⟩ (I 0)).setCell ⟨B+1,6,none⟩ (I 0)).setCell ⟨B+1,7,none⟩ (I 0)).setCell ⟨B+1,8,none⟩ (I 0)).setCell ⟨B+1,9,none⟩ (I ((lv:Int)+2)))=WY at*
 have zz74:=PLift.up @c448;exact c446):p:=h
theorem c674 (h:p:=by
 clear hset hO hbk hszb
 go_wp2_with fail
 refine wp_region_still_tail 7 (by kernel_rfl) (by kernel_rfl) ?_
 simp only[List.take_succ_cons,List.take_zero,List.drop_succ_cons,List.drop_zero]
 repeat(first|still_step|still_call hsl)
 refine wpStill_nil ?_;change wpList _ _ _ _ _ wr.drew;clear hsl;have HTW:=hid hTb;clear hTb
 go_wp2_with fail
 clear z0 z1 z2 z3 z4 z5 f1;exact zz141.down):p:=h
theorem c675 (h:p:=by
 exact zz83.down):p:=h
theorem c676 (h:p:=by
 exact zz84.down):p:=h
theorem c677 (h:p:=by
 exact zz85.down):p:=h
theorem c678 (h:p:=by
 exact zz86.down):p:=h
theorem c679 (h:p:=by
 have HKG:=hid (show∀b,K b→(fun b=>(fun b=>K b∨(B≤b∧b<B4)) b∨(Value.slice LA all.length lc).ownBlock=some b) b from fun b hb=>Or.inl (Or.inl hb))
 have HD6:=hid hD6;have HP6:=hid hP6;have HT6:=hid hT6;have HL6:=hid hL6;have HM0:=hid hM0;have Hz9:=hid hz9;have Hka:=hid hka;have HMB:=hid hMB;exact zz142.down):p:=h
theorem c680 (h:p:=by
 have Hnp:=hid hnp;have Hf1:=hid hf1;clear hD6 hP6 hT6 hL6 hM0 hz9 hka hMB hnp hf1
 go_wp2_with fail
 clear c0 c1 c2 c3 c4 c5 c6 c7 c8 c9;have zz91:=PLift.up @c499;exact c498):p:=h
theorem c681 (h:p:=by
 clear hD6 hP6 hT6 hL6 hM0 hz9 hka hMB
 go_wp2_with fail
 have zz91:=PLift.up @c500;exact c498):p:=h
theorem c682 (h:p:=by
 go_wp2_with (go_at_call 68;first|(with_reducible refine(Hd.out _).mono ?_;rintro e w9 ⟨rfl,rfl⟩)|(with_reducible refine(Ht.out _).mono ?_;rintro e w9 ⟨rfl,rfl⟩)|(with_reducible refine(Hk.out _).mono ?_;rintro e w9 ⟨rfl,rfl⟩)|(with_reducible refine(Hr.out _).mono ?_;rintro e w9 ⟨rfl,rfl⟩))
 exact zz143.down):p:=h
theorem c683 (h:p:=by
 refine wp_gen (fun W=>Blk W w.heap.size [I docs,I terms,I s0,I s1,I s2,I s3,I book,I room,kk,bb]∧Blk W (w.heap.size+1) [I 0,I 0,I 0,I 0,I 0,I 0,I 0,I 0,I 0,I 0,I 0,I 0,I 0,I 0,I 0]∧Blk W (w.heap.size+1+1) [I 0,I 0,I 0,I 0,I 0,I 0,I 0,I 0,I 0,I 0,I 0,I 0,I (3),I 1,I 0]∧Keeps (· <w.heap.size) w W) ⟨?_,?_,?_,?_⟩ (fun W1 HW=>?_)
 ·exact bA
 ·exact bA
 ·exact bA
 ·exact kA
 obtain⟨hA0,hA1,hA2,hkA⟩:=HW;generalize hBB:w.heap.size=B at*;have hl2:=hA2.lt;have HA0:=hid hA0;have HA1:=hid hA1;have HA2:=hid hA2;have HkA:=hid hkA;have HBB:=hid hBB;clear hA0 hA1 hA2 hkA hBB;clear Hd Ht Hk Hr;exact zz80.down):p:=h
theorem c684 (h:p:=by
 exact c17):p:=h
theorem c685 (h:p:=by
 have hS:=sizes_ok c h;rw[show decide (c.all≤65536)=true by simpa using hall]at hS
 obtain⟨d0,d1,t0,t1,a0,a1,b0,b1,c0,c1,e0,e1,k0,k1,r0,r1⟩:=h;have hb6:baseC c 6=c.all:=by unfold ConfM.all;simp only[baseC,szC]
 obtain⟨docs,terms,s0,s1,s2,s3,book,room,kk,bb⟩:=c;exact zz144.down):p:=h
theorem c686 (h:p:=by
 simp only at ht d0 d1 t0 t1 a0 a1 b0 b1 c0 c1 e0 e1 k0 k1 r0 r1;have zz76:=PLift.up @c453;exact c452):p:=h
theorem c687 (h:p:=by
 simp only at ht ht2 d0 d1 t0 t1 a0 a1 b0 b1 c0 c1 e0 e1 k0 k1 r0 r1;have zz76:=PLift.up @c454;exact c452):p:=h
theorem c688 (h:p:=by
 have Hd:=hid (fun W=>between_yes docs 1 64 W (by omega))
 have Ht:=hid (fun W=>between_yes terms 64 256 W (by omega))
 have Hk:=hid (fun W=>between_yes book 0 65536 W (by omega))
 have Hr:=hid (fun W=>between_yes room 0 65536 W (by omega))
 obtain⟨o0a,o0b⟩:=o0;obtain⟨o1a,o1b⟩:=o1;exact zz145.down):p:=h
theorem c689 (h:p:=by
 obtain⟨o2a,o2b⟩:=o2;obtain⟨o3a,o3b⟩:=o3;have HT:=hid hT;clear hT;have zz80:=PLift.up @c466;exact c465):p:=h
theorem c690 (h:p:=by
 exact zz112.down):p:=h
theorem c691 (h:p:=by
 clear hB1 hB2 hBk hkf d0 d1 d2 d3 d4 d5 e0 e1 e2 e3 e4 e5 f1;obtain⟨hC1,hC2,hRc,hkc⟩:=HW2;refine(step_store hRc (ad+1) v HV.out).mono ?_;rintro e w3 ⟨rfl,hr3,hk3⟩;have hE1:=hC1.keep hk3 Hg1'.out;have hE2:=hC2.keep hk3 Hg2'.out;have hkf:Keeps K w w3:=hkc.trans (hk3.mono HKK.out);exact zz146.down):p:=h
theorem c692 (h:p:=by
 have hrf:RM w3 K1 r m c (s.store (ad+1) v):=hr3;clear hr3 hk3 hC1 hC2 hRc hkc;have Hkf:=hid hkf;have Hrf:=hid hrf;clear hkf hrf;obtain⟨d0,d1,d2,d3,d4,d5⟩:=hE1.c6;obtain⟨z0,z1,z2,z3,z4,z5⟩:=hE2.c6;have f2:=hE2.free
 go_wp2_with fail
 go_region
 go_wp2_with fail
 refine bp_gen (fun W=>Blk W (B+1+1) [I nu.a0,I nu.a1,I nu.a2,I nu.a3,I nu.a4,I nu.a5]∧Keeps K w W∧RM W K1 r m c (s.store (ad+1) v)) ⟨?_,?_,?_⟩ ?_
 ·exact c69
 ·exact c83
 ·exact c86
 clear hE1 hE2 f2 d0 d1 d2 d3 d4 d5 z0 z1 z2 z3 z4 z5;rintro W3 ⟨hE2,hkf,hrf⟩;obtain⟨d0,d1,d2,d3,d4,d5⟩:=hE2.c6;refine bodyPost_ret (v:= .tuple #[I (ad+1),.agg #[I nu.a0,I nu.a1,I nu.a2,I nu.a3,I nu.a4,I nu.a5],I 0]) ?_ rfl ?_
 ·exact c117
 ·have e9:=HNA.out;refine hR'.out _ _ ⟨?_,?_,hkf⟩
  ·rw[←e9.1]
  ·unfold putNew;rw[if_pos rfl];exact hrf.mono HKK.out):p:=h
theorem c693 (h:p:=by
 have hrf:RM w3 K1 r m c ((s.store ad t).store (ad+1) v):=hr3;clear hr3 hk3 hC1 hC2 hRc hkc;have Hkf:=hid hkf;have Hrf:=hid hrf;clear hkf hrf;obtain⟨d0,d1,d2,d3,d4,d5⟩:=hE1.c6;obtain⟨z0,z1,z2,z3,z4,z5⟩:=hE2.c6;have f2:=hE2.free
 go_wp2_with fail
 go_region
 go_wp2_with fail
 refine bp_gen (fun W=>Blk W (B+1+1) [I nu.a0,I nu.a1,I nu.a2,I nu.a3,I nu.a4,I nu.a5]∧Keeps K w W∧RM W K1 r m c ((s.store ad t).store (ad+1) v)) ⟨?_,?_,?_⟩ ?_
 ·exact c69
 ·exact c83
 ·exact c86
 clear hE1 hE2 f2 d0 d1 d2 d3 d4 d5 z0 z1 z2 z3 z4 z5;rintro W3 ⟨hE2,hkf,hrf⟩;obtain⟨d0,d1,d2,d3,d4,d5⟩:=hE2.c6;refine bodyPost_ret (v:= .tuple #[I (ad+1),.agg #[I nu.a0,I nu.a1,I nu.a2,I nu.a3,I nu.a4,I nu.a5],I 0]) ?_ rfl ?_
 ·exact c117
 ·have e9:=HNA.out;refine hR'.out _ _ ⟨?_,?_,hkf⟩
  ·rw[←e9.1]
  ·unfold putNew;rw[if_neg HT0.out];exact hrf.mono HKK.out):p:=h
theorem c694 (h:p:=by
 have g6:decide (M>S-U)=false:=decide_eq_false (by omega)
 have HG:=hid (HNX.out (by omega))
 have Hb0:=hid hb0;have Hb1:=hid hb1;have Hb2:=hid hb2;clear hb0 hb1 hb2;clear hle x0 x1 x2 x3
 go_wp2_with fail
 go_quiet (fail)
 go_wp2_with fail
 exact zz147.down):p:=h
theorem c695 (h:p:=by
 go_roundw
 case rel=>
  refine⟨1,by first|rfl|go_num,by omega,hid ⟨?_,?_,?_,?_,HG.out⟩⟩
  ·exact c37
  ·exact c38
  ·exact c39
  ·exact c10
 case measure=>simp[intOf]):p:=h
theorem c696 (h:p:=by
 go_roundw
 case rel=>
  refine⟨2,by first|rfl|go_num,by omega,hid ⟨?_,?_,?_,?_,HG.out⟩⟩
  ·exact c37
  ·exact c38
  ·exact c39
  ·exact c10
 case measure=>simp[intOf]):p:=h
theorem c697 (h:p:=by
 go_roundw
 case rel=>
  refine⟨3,by first|rfl|go_num,by omega,hid ⟨?_,?_,?_,?_,HG.out⟩⟩
  ·exact c37
  ·exact c38
  ·exact c39
  ·exact c10
 case measure=>simp[intOf]):p:=h
theorem c698 (h:p:=by
 go_roundw
 case rel=>
  refine⟨4,by first|rfl|go_num,by omega,hid ⟨?_,?_,?_,?_,HG.out⟩⟩
  ·exact c37
  ·exact c38
  ·exact c39
  ·exact c10
 case measure=>simp[intOf]):p:=h
theorem c699 (h:p:=by
 go_roundw
 case rel=>
  refine⟨5,by first|rfl|go_num,by omega,hid ⟨?_,?_,?_,?_,HG.out⟩⟩
  ·exact c37
  ·exact c38
  ·exact c39
  ·exact c10
 case measure=>simp[intOf]):p:=h
theorem c700 (h:p:=by
 go_roundw
 case rel=>
  refine⟨6,by first|rfl|go_num,by omega,hid ⟨?_,?_,?_,?_,HG.out⟩⟩
  ·exact c37
  ·exact c38
  ·exact c39
  ·exact c10
 case measure=>simp[intOf]):p:=h
theorem c701 (h:p:=by
 simp only[List.getElem?_cons_zero,List.getElem?_cons_succ]at c0 c1;clear hm HM HNB HK hkn;have Hst:=hid hst;have Hnb9:=hid hnb9;have Hkk:=hid hkk;clear hst hnb9 hkk
 go_upto_region 27 with fail
 go_region
 go_wp2_with fail
 exact zz148.down):p:=h
theorem c702 (h:p:=by
 exact zz58.down):p:=h
theorem c703 (h:p:=by
 exact c335):p:=h
theorem c704 (h:p:=by
 exact c336):p:=h
theorem c705 (h:p:=by
 exact c337):p:=h
theorem c706 (h:p:=by
 exact c338):p:=h
theorem c707 (h:p:=by
 exact c340):p:=h
theorem c708 (h:p:=by
 have hwt:IntKind.i64.wrap (tl:Int)=(tl:Int):=IntWalk.i64_in _ (by omega)
 have hrn:¬(rc:Int)<0:=by omega
 have hrd0:decide ((rc:Int)<0)=false:=decide_eq_false (by omega)
 exact zz149.down):p:=h
theorem c709 (h:p:=by
 have hrd1:decide ((cs1.length:Int)≤(rc:Int))=false:=decide_eq_false (by omega)
 have hc:=HS3.out.b0;obtain⟨y0,y1,y2,y3,y4,y5,y6,y7,y8,y9⟩:=hc.c10;have hpc:=HS3.out.b1;unfold PlanM.flat at hpc;obtain⟨g0,g1,g2,g3,g4,g5,g6,g7,g8,g9,g10,g11,g12,g13,g14⟩:=hpc.c15;clear hc hpc;have hl0:=HS3.out.b0.lt;have hl1:=HS3.out.b1.lt;have HSS:=hid (show∀wa w':World,Keeps (· <w2.heap.size) w2 wa→Keeps (· <wa.heap.size) wa w'→(e0_10 w' B (.slice (some ⟨cb,co,none⟩) cs1.length cp) (.slice A2 n2 c2) (I wt) (J wv) (I u0) (I u1') (I u2') (I u3) (I u4) (I u5) (e0_15 w' (B+1) (I p.base.a0) (I p.base.a1) (I p.base.a2) (I p.base.a3) (I p.base.a4) (I p.base.a5) (I p.size.a0) (I p.size.a1) (I p.size.a2) (I p.size.a3) (I p.size.a4) (I p.size.a5) (I p.cells) (I p.slots) (I p.live) (w'.cell? ⟨cb,co+rc,none⟩=some (J (tl:Int)))))∧(¬w'.heap.size=B∧¬w'.heap.size=B+1∧¬w'.heap.size=cb)from by
  intro wa w' k1 k2;have k:Keeps (· <w2.heap.size) w2 w':=k1.trans (k2.mono fun b hb=>by have:=k1.size;omega)
  have e0:=fun i=>World.cell?_of_block (a:=⟨B,i,none⟩) (k.block B hl0);have e1:=fun i=>World.cell?_of_block (a:=⟨B+1,i,none⟩) (k.block (B+1) hl1);have e2:=World.cell?_of_block (a:=⟨cb,co+rc,none⟩) (k.block _ hrab);have hks:=k.size;exact⟨⟨(e0 0).trans y0,(e0 1).trans y1,(e0 2).trans y2,(e0 3).trans y3,(e0 4).trans y4,(e0 5).trans y5,(e0 6).trans y6,(e0 7).trans y7,(e0 8).trans y8,(e0 9).trans y9,(e1 0).trans g0,(e1 1).trans g1,(e1 2).trans g2,(e1 3).trans g3,(e1 4).trans g4,(e1 5).trans g5,(e1 6).trans g6,(e1 7).trans g7,(e1 8).trans g8,(e1 9).trans g9,(e1 10).trans g10,(e1 11).trans g11,(e1 12).trans g12,(e1 13).trans g13,(e1 14).trans g14,e2.trans rcell⟩,by omega,by omega,by omega⟩)
 have HPT:=hid (fun W (hk:Keeps (· <w2.heap.size) w2 W)=>ref9_put cs1 p P HP.out Hl.out ⟨u0,u1',u2',u3,u4,u5⟩ tl wd cs2 t2 u2 (some ⟨cb,co,none⟩) cp W (fun b=>b≠B∧b<w2.heap.size) (fun b hb9=>by have:=hk.size;omega) (Hsl2.out.keep hk fun b hb=>hb.2) (by omega) (by omega) (by omega) Hput.out)
 unfold PlanM.val V6.val at HPT;dsimp only at HPT;have HTB:=hid (show∀wa,Keeps (· <w2.heap.size) w2 wa→Z 95 #[.slice (some ⟨cb,co,none⟩) cs1.length cp,(.agg #[I p.base.a0,I p.base.a1,I p.base.a2,I p.base.a3,I p.base.a4,I p.base.a5,I p.size.a0,I p.size.a1,I p.size.a2,I p.size.a3,I p.size.a4,I p.size.a5,I p.cells,I p.slots,I p.live]),(.agg #[I u0,I u1',I u2',I u3,I u4,I u5]),I (tl:Int),J wd] wa fun e w'=>∃NP,e= .returned (.tuple #[.slice (some ⟨NP,0,none⟩) cs1.length cs1.length,I (t2:Int),.agg #[I u2.a0,I u2.a1,I u2.a2,I u2.a3,I u2.a4,I u2.a5],I 0])∧Hid (w2.heap.size≤NP∧Blk w' NP (cs2.map (Value.int .u32))∧Keeps (· <w2.heap.size) w2 w')∧((e0_10 w' B (.slice (some ⟨cb,co,none⟩) cs1.length cp) (.slice A2 n2 c2) (I wt) (J wv) (I u0) (I u1') (I u2') (I u3) (I u4) (I u5) (e0_15 w' (B+1) (I p.base.a0) (I p.base.a1) (I p.base.a2) (I p.base.a3) (I p.base.a4) (I p.base.a5) (I p.size.a0) (I p.size.a1) (I p.size.a2) (I p.size.a3) (I p.size.a4) (I p.size.a5) (I p.cells) (I p.slots) (I p.live) (w'.cell? ⟨cb,co+rc,none⟩=some (J (tl:Int)))))∧(¬w'.heap.size=B∧¬w'.heap.size=B+1∧¬w'.heap.size=cb))from fun wa h1=>by
  refine(HPT.out wa h1).mono ?_;rintro e w' ⟨NP,rfl,h2,h3,h4⟩;exact⟨NP,rfl,⟨Nat.le_trans h1.size h2,h3,h1.trans (h4.mono fun b hb=>by have:=h1.size;omega)⟩,HSS.out _ _ h1 h4⟩)
 have HTA:=hid (show∀wa,Blk wa w2.heap.size [I 0,I 0,I 0,I 0,I 0,I 0]→Keeps (· <w2.heap.size) w2 wa→Z 95 #[.slice (some ⟨cb,co,none⟩) cs1.length cp,(.agg #[I p.base.a0,I p.base.a1,I p.base.a2,I p.base.a3,I p.base.a4,I p.base.a5,I p.size.a0,I p.size.a1,I p.size.a2,I p.size.a3,I p.size.a4,I p.size.a5,I p.cells,I p.slots,I p.live]),(.agg #[I u0,I u1',I u2',I u3,I u4,I u5]),I (tl:Int),J wd] wa fun e w'=>∃NP,e= .returned (.tuple #[.slice (some ⟨NP,0,none⟩) cs1.length cs1.length,I (t2:Int),.agg #[I u2.a0,I u2.a1,I u2.a2,I u2.a3,I u2.a4,I u2.a5],I 0])∧Hid (w2.heap.size<NP∧Blk w' NP (cs2.map (Value.int .u32))∧Blk w' w2.heap.size [I 0,I 0,I 0,I 0,I 0,I 0]∧Keeps (· <w2.heap.size) w2 w')∧(e0_6 w' w2.heap.size (I 0) (I 0) (I 0) (I 0) (I 0) (I 0) (w'.frozen? ⟨w2.heap.size,0,none⟩=false∧w'.frozen? ⟨w2.heap.size,1,none⟩=false∧w'.frozen? ⟨w2.heap.size,2,none⟩=false∧w'.frozen? ⟨w2.heap.size,3,none⟩=false∧w'.frozen? ⟨w2.heap.size,4,none⟩=false∧w'.frozen? ⟨w2.heap.size,5,none⟩=false))∧((e0_10 w' B (.slice (some ⟨cb,co,none⟩) cs1.length cp) (.slice A2 n2 c2) (I wt) (J wv) (I u0) (I u1') (I u2') (I u3) (I u4) (I u5) (e0_15 w' (B+1) (I p.base.a0) (I p.base.a1) (I p.base.a2) (I p.base.a3) (I p.base.a4) (I p.base.a5) (I p.size.a0) (I p.size.a1) (I p.size.a2) (I p.size.a3) (I p.size.a4) (I p.size.a5) (I p.cells) (I p.slots) (I p.live) (w'.cell? ⟨cb,co+rc,none⟩=some (J (tl:Int)))))∧(¬w'.heap.size=B∧¬w'.heap.size=B+1∧¬w'.heap.size=cb))from fun wa h0 h1=>by
  refine(HPT.out wa h1).mono ?_;rintro e w' ⟨NP,rfl,h2,h3,h4⟩;have h5:=h0.keep h4 h0.lt;have h6:=h5;obtain⟨z0,z1,z2,z3,z4,z5⟩:=h6.c6;exact⟨NP,rfl,⟨Nat.lt_of_lt_of_le h0.lt h2,h3,h5,h1.trans (h4.mono fun b hb=>by have:=h1.size;omega)⟩,⟨z0,z1,z2,z3,z4,z5,h5.free 0,h5.free 1,h5.free 2,h5.free 3,h5.free 4,h5.free 5⟩,HSS.out _ _ h1 h4⟩)
 have hneB:¬w2.heap.size=B:=by omega
 have hneB1:¬w2.heap.size=B+1:=by omega
 have hneC:¬w2.heap.size=cb:=by omega
 go_upto_region 9 with fail
 go_cut[21,22,23,24]from 71 to 89 (fun a b e f wx=>∃NP B5,a= .slice (some ⟨NP,0,none⟩) cs1.length cs1.length∧b=I (t2:Int)∧e= .pointer (some ⟨B5,0,none⟩)∧f=I 0∧w2.heap.size≤NP∧w2.heap.size≤B5∧NP≠B5∧Blk wx B5 [I u2.a0,I u2.a1,I u2.a2,I u2.a3,I u2.a4,I u2.a5]∧Blk wx NP (cs2.map (Value.int .u32))∧Keeps (· <w2.heap.size) w2 wx)
 case first=>
  go_region_held3 (fun w'=>(e0_10 w' B (.slice (some ⟨cb,co,none⟩) cs1.length cp) (.slice A2 n2 c2) (I wt) (J wv) (I u0) (I u1') (I u2') (I u3) (I u4) (I u5) (e0_15 w' (B+1) (I p.base.a0) (I p.base.a1) (I p.base.a2) (I p.base.a3) (I p.base.a4) (I p.base.a5) (I p.size.a0) (I p.size.a1) (I p.size.a2) (I p.size.a3) (I p.size.a4) (I p.size.a5) (I p.cells) (I p.slots) (I p.live) (w'.cell? ⟨cb,co+rc,none⟩=some (J (tl:Int)))))) (go_keep)
   (first
    |(go_at_call 95;refine(HTA.out _ ?_ ?_).mono ?_;(focus((repeat(first|with_reducible exact Blk.new _ _ _|with_reducible refine Blk.drew ?_|with_reducible refine Blk.drewN ?_ _|(with_reducible refine Blk.new' _ _ _ ?_;focus(simp;done))));done));(focus((repeat(first|with_reducible exact Keeps.refl _ _|with_reducible refine Keeps.drew ?_|with_reducible refine Keeps.drewN ?_ _|with_reducible refine Keeps.alloc ?_ ?_ _));all_goals(intro b hb;exact hb)));rintro e wb ⟨NP,rfl,HBW,⟨zc0,zc1,zc2,zc3,zc4,zc5,zf0,zf1,zf2,zf3,zf4,zf5⟩,⟨q0,q1,q2,q3,q4,q5,q6,q7,q8,q9,q10,q11,q12,q13,q14,q15,q16,q17,q18,q19,q20,q21,q22,q23,q24,q25⟩,qa,qb,qc⟩)
    |(go_at_call 95;refine(HTB.out _ ?_).mono ?_;(focus((repeat(first|with_reducible exact Keeps.refl _ _|with_reducible refine Keeps.drew ?_|with_reducible refine Keeps.drewN ?_ _|with_reducible refine Keeps.alloc ?_ ?_ _));all_goals(intro b hb;exact hb)));rintro e wb ⟨NP,rfl,HBW,⟨q0,q1,q2,q3,q4,q5,q6,q7,q8,q9,q10,q11,q12,q13,q14,q15,q16,q17,q18,q19,q20,q21,q22,q23,q24,q25⟩,qa,qb,qc⟩))
  all_goals
   go_wp2_with fail
   go_meet
   case rel=>
    exact c42
 case rest=>
  obtain⟨NP,B5,rfl,rfl,rfl,rfl,hnp,hb5,hne5,hU5,hN5,hk5⟩:=hcut;have hS5:=HS3.out.calls hk5;have hl3:=HS3.out.b3.lt;clear HSS HPT HTB HTA y0 y1 y2 y3 y4 y5 y6 y7 y8 y9 g0 g1 g2 g3 g4 g5 g6 g7 g8 g9 g10 g11 g12 g13 g14 hk5 hneB hneB1 hneC hwt hrd0 hrd1 rcell;have hlx:(cs2.map (Value.int .u32)).length=cs1.length:=by rw[List.length_map,Hlen2.out.1]
  have ht2l:t2<cs1.length:=by have:=Hlen2.out.2;omega
  have hw2:IntKind.u32.wrap (t2:Int)=(t2:Int):=IntWalk.u32_in _ (by omega)
  have hd0:decide ((rc:Int)<0)=false:=decide_eq_false (by omega)
  have hd1:decide ((cs1.length:Int)≤(rc:Int))=false:=decide_eq_false (by omega)
  have zz90:=PLift.up @c496;exact c495):p:=h
theorem c710 (h:p:=by
 have hrd1:decide ((cs.length:Int)≤(rc:Int))=false:=decide_eq_false (by omega)
 have hc:=HS6.out.b0;obtain⟨y0,y1,y2,y3,y4,y5,y6,y7,y8,y9⟩:=hc.c10;have hpc:=HS6.out.b1;unfold PlanM.flat at hpc;obtain⟨g0,g1,g2,g3,g4,g5,g6,g7,g8,g9,g10,g11,g12,g13,g14⟩:=hpc.c15;clear hc hpc;have hl0:=HS6.out.b0.lt;have hl1:=HS6.out.b1.lt;have HSS:=hid (show∀wa w':World,Keeps (· <w6.heap.size) w6 wa→Keeps (· <wa.heap.size) wa w'→(e0_10 w' B (.slice (some ⟨NB,0,none⟩) cs.length cs.length) (.slice A2 n2 c2) (I wt) (J wv) (I u0) (I u1') (I u2') (I u3) (I z9) (I u5) (e0_15 w' (B+1) (I p.base.a0) (I p.base.a1) (I p.base.a2) (I p.base.a3) (I p.base.a4) (I p.base.a5) (I p.size.a0) (I p.size.a1) (I p.size.a2) (I p.size.a3) (I p.size.a4) (I p.size.a5) (I p.cells) (I p.slots) (I p.live) (w'.cell? ⟨NB,rc,none⟩=some (J (tl:Int)))))∧(¬w'.heap.size=B∧¬w'.heap.size=B+1∧¬w'.heap.size=NB)from by
  intro wa w' k1 k2;have k:Keeps (· <w6.heap.size) w6 w':=k1.trans (k2.mono fun b hb=>by have:=k1.size;omega)
  have e0:=fun i=>World.cell?_of_block (a:=⟨B,i,none⟩) (k.block B hl0);have e1:=fun i=>World.cell?_of_block (a:=⟨B+1,i,none⟩) (k.block (B+1) hl1);have e2:=World.cell?_of_block (a:=⟨NB,rc,none⟩) (k.block _ hrab);have hks:=k.size;exact⟨⟨(e0 0).trans y0,(e0 1).trans y1,(e0 2).trans y2,(e0 3).trans y3,(e0 4).trans y4,(e0 5).trans y5,(e0 6).trans y6,(e0 7).trans y7,(e0 8).trans y8,(e0 9).trans y9,(e1 0).trans g0,(e1 1).trans g1,(e1 2).trans g2,(e1 3).trans g3,(e1 4).trans g4,(e1 5).trans g5,(e1 6).trans g6,(e1 7).trans g7,(e1 8).trans g8,(e1 9).trans g9,(e1 10).trans g10,(e1 11).trans g11,(e1 12).trans g12,(e1 13).trans g13,(e1 14).trans g14,e2.trans rcell⟩,by omega,by omega,by omega⟩)
 have HPT:=hid (fun W (hk:Keeps (· <w6.heap.size) w6 W)=>ref9_put cs1 p P HP.out Hl.out ⟨u0,u1',u2',u3,z9,u5⟩ tl wd cs2 t2 u2 (some ⟨NB,0,none⟩) cs.length W (fun b=>b≠B∧b<w6.heap.size) (fun b hb9=>by have:=hk.size;omega) (Hsl2.out.keep hk fun b hb=>hb.2) (by omega) (by omega) (by omega) Hput.out)
 unfold PlanM.val V6.val at HPT;dsimp only at HPT;rw[hcl]at HPT;have HTB:=hid (show∀wa,Keeps (· <w6.heap.size) w6 wa→Z 95 #[.slice (some ⟨NB,0,none⟩) cs.length cs.length,(.agg #[I p.base.a0,I p.base.a1,I p.base.a2,I p.base.a3,I p.base.a4,I p.base.a5,I p.size.a0,I p.size.a1,I p.size.a2,I p.size.a3,I p.size.a4,I p.size.a5,I p.cells,I p.slots,I p.live]),(.agg #[I u0,I u1',I u2',I u3,I z9,I u5]),I (tl:Int),J wd] wa fun e w'=>∃NP,e= .returned (.tuple #[.slice (some ⟨NP,0,none⟩) cs.length cs.length,I (t2:Int),.agg #[I u2.a0,I u2.a1,I u2.a2,I u2.a3,I u2.a4,I u2.a5],I 0])∧Hid (w6.heap.size≤NP∧Blk w' NP (cs2.map (Value.int .u32))∧Keeps (· <w6.heap.size) w6 w')∧((e0_10 w' B (.slice (some ⟨NB,0,none⟩) cs.length cs.length) (.slice A2 n2 c2) (I wt) (J wv) (I u0) (I u1') (I u2') (I u3) (I z9) (I u5) (e0_15 w' (B+1) (I p.base.a0) (I p.base.a1) (I p.base.a2) (I p.base.a3) (I p.base.a4) (I p.base.a5) (I p.size.a0) (I p.size.a1) (I p.size.a2) (I p.size.a3) (I p.size.a4) (I p.size.a5) (I p.cells) (I p.slots) (I p.live) (w'.cell? ⟨NB,rc,none⟩=some (J (tl:Int)))))∧(¬w'.heap.size=B∧¬w'.heap.size=B+1∧¬w'.heap.size=NB))from fun wa h1=>by
  refine(HPT.out wa h1).mono ?_;rintro e w' ⟨NP,rfl,h2,h3,h4⟩;exact⟨NP,rfl,⟨Nat.le_trans h1.size h2,h3,h1.trans (h4.mono fun b hb=>by have:=h1.size;omega)⟩,HSS.out _ _ h1 h4⟩)
 have HTA:=hid (show∀wa,Blk wa w6.heap.size [I 0,I 0,I 0,I 0,I 0,I 0]→Keeps (· <w6.heap.size) w6 wa→Z 95 #[.slice (some ⟨NB,0,none⟩) cs.length cs.length,(.agg #[I p.base.a0,I p.base.a1,I p.base.a2,I p.base.a3,I p.base.a4,I p.base.a5,I p.size.a0,I p.size.a1,I p.size.a2,I p.size.a3,I p.size.a4,I p.size.a5,I p.cells,I p.slots,I p.live]),(.agg #[I u0,I u1',I u2',I u3,I z9,I u5]),I (tl:Int),J wd] wa fun e w'=>∃NP,e= .returned (.tuple #[.slice (some ⟨NP,0,none⟩) cs.length cs.length,I (t2:Int),.agg #[I u2.a0,I u2.a1,I u2.a2,I u2.a3,I u2.a4,I u2.a5],I 0])∧Hid (w6.heap.size<NP∧Blk w' NP (cs2.map (Value.int .u32))∧Blk w' w6.heap.size [I 0,I 0,I 0,I 0,I 0,I 0]∧Keeps (· <w6.heap.size) w6 w')∧(e0_6 w' w6.heap.size (I 0) (I 0) (I 0) (I 0) (I 0) (I 0) (w'.frozen? ⟨w6.heap.size,0,none⟩=false∧w'.frozen? ⟨w6.heap.size,1,none⟩=false∧w'.frozen? ⟨w6.heap.size,2,none⟩=false∧w'.frozen? ⟨w6.heap.size,3,none⟩=false∧w'.frozen? ⟨w6.heap.size,4,none⟩=false∧w'.frozen? ⟨w6.heap.size,5,none⟩=false))∧((e0_10 w' B (.slice (some ⟨NB,0,none⟩) cs.length cs.length) (.slice A2 n2 c2) (I wt) (J wv) (I u0) (I u1') (I u2') (I u3) (I z9) (I u5) (e0_15 w' (B+1) (I p.base.a0) (I p.base.a1) (I p.base.a2) (I p.base.a3) (I p.base.a4) (I p.base.a5) (I p.size.a0) (I p.size.a1) (I p.size.a2) (I p.size.a3) (I p.size.a4) (I p.size.a5) (I p.cells) (I p.slots) (I p.live) (w'.cell? ⟨NB,rc,none⟩=some (J (tl:Int)))))∧(¬w'.heap.size=B∧¬w'.heap.size=B+1∧¬w'.heap.size=NB))from fun wa h0 h1=>by
  refine(HPT.out wa h1).mono ?_;rintro e w' ⟨NP,rfl,h2,h3,h4⟩;have h5:=h0.keep h4 h0.lt;have h6:=h5;obtain⟨z0,z1,z2,z3,z4,z5⟩:=h6.c6;exact⟨NP,rfl,⟨Nat.lt_of_lt_of_le h0.lt h2,h3,h5,h1.trans (h4.mono fun b hb=>by have:=h1.size;omega)⟩,⟨z0,z1,z2,z3,z4,z5,h5.free 0,h5.free 1,h5.free 2,h5.free 3,h5.free 4,h5.free 5⟩,HSS.out _ _ h1 h4⟩)
 have hneB:¬w6.heap.size=B:=by omega
 have hneB1:¬w6.heap.size=B+1:=by omega
 have hneC:¬w6.heap.size=NB:=by omega
 go_upto_region 9 with fail
 go_cut[21,22,23,24]from 71 to 89 (fun a b e f wx=>∃NP B5,a= .slice (some ⟨NP,0,none⟩) cs.length cs.length∧b=I (t2:Int)∧e= .pointer (some ⟨B5,0,none⟩)∧f=I 0∧w6.heap.size≤NP∧w6.heap.size≤B5∧NP≠B5∧Blk wx B5 [I u2.a0,I u2.a1,I u2.a2,I u2.a3,I u2.a4,I u2.a5]∧Blk wx NP (cs2.map (Value.int .u32))∧Keeps (· <w6.heap.size) w6 wx)
 case first=>
  go_region_held3 (fun w'=>(e0_10 w' B (.slice (some ⟨NB,0,none⟩) cs.length cs.length) (.slice A2 n2 c2) (I wt) (J wv) (I u0) (I u1') (I u2') (I u3) (I z9) (I u5) (e0_15 w' (B+1) (I p.base.a0) (I p.base.a1) (I p.base.a2) (I p.base.a3) (I p.base.a4) (I p.base.a5) (I p.size.a0) (I p.size.a1) (I p.size.a2) (I p.size.a3) (I p.size.a4) (I p.size.a5) (I p.cells) (I p.slots) (I p.live) (w'.cell? ⟨NB,rc,none⟩=some (J (tl:Int)))))) (go_keep)
   (first
    |(go_at_call 95;refine(HTA.out _ ?_ ?_).mono ?_;(focus((repeat(first|with_reducible exact Blk.new _ _ _|with_reducible refine Blk.drew ?_|with_reducible refine Blk.drewN ?_ _|(with_reducible refine Blk.new' _ _ _ ?_;focus(simp;done))));done));(focus((repeat(first|with_reducible exact Keeps.refl _ _|with_reducible refine Keeps.drew ?_|with_reducible refine Keeps.drewN ?_ _|with_reducible refine Keeps.alloc ?_ ?_ _));all_goals(intro b hb;exact hb)));rintro e wb ⟨NP,rfl,HBW,⟨zc0,zc1,zc2,zc3,zc4,zc5,zf0,zf1,zf2,zf3,zf4,zf5⟩,⟨q0,q1,q2,q3,q4,q5,q6,q7,q8,q9,q10,q11,q12,q13,q14,q15,q16,q17,q18,q19,q20,q21,q22,q23,q24,q25⟩,qa,qb,qc⟩)
    |(go_at_call 95;refine(HTB.out _ ?_).mono ?_;(focus((repeat(first|with_reducible exact Keeps.refl _ _|with_reducible refine Keeps.drew ?_|with_reducible refine Keeps.drewN ?_ _|with_reducible refine Keeps.alloc ?_ ?_ _));all_goals(intro b hb;exact hb)));rintro e wb ⟨NP,rfl,HBW,⟨q0,q1,q2,q3,q4,q5,q6,q7,q8,q9,q10,q11,q12,q13,q14,q15,q16,q17,q18,q19,q20,q21,q22,q23,q24,q25⟩,qa,qb,qc⟩))
  all_goals
   go_wp2_with fail
   go_meet
   case rel=>
    exact c42
 case rest=>
  obtain⟨NP,B5,rfl,rfl,rfl,rfl,hnp,hb5,hne5,hU5,hN5,hk5⟩:=hcut;have hS5:=HS6.out.calls hk5;have hl3:=HS6.out.b3.lt;clear HSS HPT HTB HTA y0 y1 y2 y3 y4 y5 y6 y7 y8 y9 g0 g1 g2 g3 g4 g5 g6 g7 g8 g9 g10 g11 g12 g13 g14 hk5 hneB hneB1 hneC hwt hrd0 hrd1 rcell;have hlx:(cs2.map (Value.int .u32)).length=cs.length:=by rw[List.length_map,Hlen2.out.1];exact hcl
  have ht2l:t2<cs.length:=by have:=Hlen2.out.2;omega
  have hw2:IntKind.u32.wrap (t2:Int)=(t2:Int):=IntWalk.u32_in _ (by omega)
  have hd0:decide ((rc:Int)<0)=false:=decide_eq_false (by omega)
  have hd1:decide ((cs.length:Int)≤(rc:Int))=false:=decide_eq_false (by omega)
  have zz90:=PLift.up @c497;exact c495):p:=h
theorem c711 (h:p:=by
 rintro e w1 ⟨rfl,hk1⟩;have hB0:=hA0.keep hk1 hA0.lt;have hB1:=hA1.keep hk1 hA1.lt;have hB2:=hA2.keep hk1 hA2.lt;have hkw:=hkA.trans (hk1.mono fun b hb=>by have:=hkA.size;omega)
 exact zz150.down):p:=h
theorem c712 (h:p:=by
 clear hnx hA0 hA1 hA2 hkA hk1 HND;generalize hBB:w.heap.size=B at*;have HBB:=hid hBB;clear hBB
 cases x2 with
 |false=>
  rw[if_pos rfl]at hR';obtain⟨d0,d1,d2,d3,d4,d5⟩:=hB1.c6;obtain⟨z0,z1,z2,z3,z4,z5⟩:=hB2.c6;have f1:=hB1.free;clear hcl
  go_wp2_with fail
  refine bp_gen (fun W=>Blk W (B+1) [I 0,I 0,I 0,I 0,I 0,I 0]∧Keeps (· <B) w W) ⟨?_,?_⟩ ?_
  ·first|with_reducible exact Blk.set6 hB1 _ _ _ _ _ _ (by simp)|with_reducible exact(Blk.set6 hB1 _ _ _ _ _ _ (by simp)).drew
  ·exact kA
  clear hB0 hB1 hB2 hkw d0 d1 d2 d3 d4 d5 z0 z1 z2 z3 z4 z5 f1;rintro W2 ⟨g1,g2⟩;obtain⟨d0,d1,d2,d3,d4,d5⟩:=g1.c6;refine bodyPost_ret (v:= .agg #[I 0,I 0,I 0,I 0,I 0,I 0]) ?_ rfl ?_
  ·simp[results,Tryz.results78,go_sem,d0,d1,d2,d3,d4,d5]
  ·exact hR'.out _ _ ⟨rfl,g2⟩
 |true=>
  rw[if_neg (by decide)]at hR'
  have HTB:=hid (show PTab w1∧B+1+1<w1.heap.size∧0<B from⟨HT.out.keep hkw (by have:=HT.out.2.2.2.2;have:=HBB.out;omega),hB2.lt,by have:=HT.out.2.2.2.2;have:=HBB.out;omega⟩)
  have hrg:=Hrg.out rfl
  rcases hrg with⟨rfl,k,hk,rfl,hc0,hc1⟩|⟨k,hk,rfl⟩
  ·rw[if_pos (by omega),show((k:Int)).toNat=k from by omega]at hR'
   have g0:decide ((-1:Int)<0)=true:=rfl;have HC1:=hid hc1;have HC0:=hid hc0;have HKK:=hid hk;clear hc1 hc0 hk;have zz66:=PLift.up @c374;exact c373
  ·rw[if_neg (by omega),show((k:Int)).toNat=k from by omega]at hR'
   have g0:decide ((k:Int)<0)=false:=decide_eq_false (by omega)
   go_wp2_with fail
   have HB1:=hid hB1;have Hkw:=hid hkw;clear hB1 hkw;have hB2':=hB2;clear hB2
   go_loopw[2,8,10] (fun vn vk vr wr=>∃(f:Nat) (n' r':Int) (k':Nat) (o:V6),vn=I n'∧vk=I (k':Int)∧vr=I r'∧k'≤3∧-9223372036854775808≤n'∧n'≤3000∧0≤r'∧r'≤256∧
    n'.toNat+(if r'≤0 then 1 else 0)<f∧Hid (Blk wr (B+1+1) [I o.a0,I o.a1,I o.a2,I o.a3,I o.a4,I o.a5]∧Keeps (fun b=>b<w1.heap.size∧b≠B+1+1) w1 wr∧(∀i,i≤3→0≤o.uK i∧o.uK i+256*f≤10000000)∧needL f n' r' k' o=needL (n.toNat+2) n 0 k zerosN)) (fun vn _ vr _=>2*(intOf vn).toNat+(if intOf vr≤0 then 1 else 0))
   case atStart=>exact⟨n.toNat+2,n,0,k,zerosN,rfl,rfl,rfl,hk,n0,n1,by omega,by omega,by first|(simp;done)|(simp;omega),hid ⟨hB2',Keeps.refl _ _,fun i hi=>by rw[zerosN_uK];omega,rfl⟩⟩
   case round=>
    obtain⟨f,n',r',k',o,rfl,rfl,rfl,hk',hn0,hn1,hr0,hr1,hf,HI⟩:=hrel
    by_cases hgt:n'>r'
    ·obtain⟨f,rfl⟩:∃g,f=g+1:=⟨f-1,by omega⟩
     have zz21:=PLift.up @c209;exact c208
    ·have HE:=hid hgt;have hfin:o=needL (n.toNat+2) n 0 k zerosN:=by
      have:=HI.out.2.2.2
      cases f with
      |zero=>omega
      |succ f=>rw[needL,if_neg hgt]at this;exact this
     have zz29:=PLift.up @c233;exact c232):p:=h
theorem c713 (h:p:=by
 clear hA0 hA1 hA2 hkA hk1;generalize hBB:w.heap.size=B at*;have HBB:=hid hBB;clear hBB
 cases x2 with
 |false=>
  rw[if_pos rfl]at hR';obtain⟨d0,d1,d2,d3,d4,d5⟩:=hB1.c6;obtain⟨z0,z1,z2,z3,z4,z5⟩:=hB2.c6;have f1:=hB1.free
  go_wp2_with fail
  refine bp_gen (fun W=>Blk W (B+1) [I 0,I 0,I 0,I 0,I 0,I 0]∧Keeps (· <B) w W) ⟨?_,?_⟩ ?_
  ·first|with_reducible exact Blk.set6 hB1 _ _ _ _ _ _ (by simp)|with_reducible exact(Blk.set6 hB1 _ _ _ _ _ _ (by simp)).drew
  ·exact kA
  clear hB0 hB1 hB2 hkw d0 d1 d2 d3 d4 d5 z0 z1 z2 z3 z4 z5 f1;rintro W2 ⟨g1,g2⟩;obtain⟨d0,d1,d2,d3,d4,d5⟩:=g1.c6;refine bodyPost_ret (v:= .agg #[I 0,I 0,I 0,I 0,I 0,I 0]) ?_ rfl ?_
  ·simp[results,Tryz.results63,go_sem,d0,d1,d2,d3,d4,d5]
  ·exact hR'.out _ _ ⟨rfl,g2⟩
 |true=>
  rw[if_neg (by decide)]at hR'
  by_cases h0:t=0
  ·rw[if_pos h0]at hR';have g0:(t !=0)=false:=by simp[h0]
   have g6:decide (n>1000000)=false:=decide_eq_false (by omega)
   have HRK:=hid (show(0:Int)=((0:Nat):Int)∧0≤256∧0≤3∧(0:Int)=((0:Nat):Int)from⟨rfl,by omega,by omega,rfl⟩)
   clear hB0 h0
   go_wp2_with fail
   have HB1:=hid hB1;have Hkw:=hid hkw;have hB2':=hB2;clear hB1 hkw hB2
   go_loopw[8,9,12] (fun vl vk vi wr=>∃(i m lf k':Nat) (o:V6),vl=I (lf:Int)∧vk=I (k':Int)∧vi=I (i:Int)∧k'≤3∧lf≤256∧i+m=n.toNat∧
    Hid (Blk wr (B+1+1) [I o.a0,I o.a1,I o.a2,I o.a3,I o.a4,I o.a5]∧Keeps (fun b=>b<w1.heap.size∧b≠B+1+1) w1 wr∧(∀j,j≤3→0≤o.uK j∧o.uK j+256*m≤10000000)∧refL m lf k' o=refL n.toNat 0 0 zerosN)) (fun _ _ vi _=>n.toNat-(intOf vi).toNat)
   case atStart=>exact⟨0,n.toNat,0,0,zerosN,by first|rfl|go_num|(have hx:=HRK.out;congr 1;omega),by first|rfl|go_num|(have hx:=HRK.out;congr 1;omega),rfl,HRK.out.2.2.1,HRK.out.2.1,by omega,hid ⟨hB2',Keeps.refl _ _,fun i hi=>by rw[zerosN_uK];omega,rfl⟩⟩
   case round=>
    obtain⟨i,m,lf,k',o,rfl,rfl,rfl,hk',hlf,him,HI⟩:=hrel
    by_cases hlt:(i:Int)<n
    ·obtain⟨m,rfl⟩:∃g,m=g+1:=⟨m-1,by omega⟩
     obtain⟨hO,hKO,hbd,hres⟩:=HI.out;have HIM:=hid (show i+1+m=n.toNat from by omega)
     have HKO:=hid hKO;have hi3:i<3000:=by omega
     by_cases hl0:lf=0
     ·rw[show refL (m+1) lf k' o=refL m (sz k'-2) (min (k'+1) 3) (o.up k' (szK k'))from by rw[refL,if_pos hl0]]at hres
      have zz107:=PLift.up @c547;exact c546
     ·rw[show refL (m+1) lf k' o=refL m (lf-1) k' o from by rw[refL,if_neg hl0]]at hres
      have zz41:=PLift.up @c276;exact c275
    ·have hm0:m=0:=by omega
     subst hm0;have hfin:o=refL n.toNat 0 0 zerosN:=HI.out.2.2.2;have zz29:=PLift.up @c234;exact c232
  ·rw[if_neg h0]at hR';have g0:(t !=0)=true:=by simp[h0]
   have g6:decide (n>1000000)=false:=decide_eq_false (by omega)
   have hc1:=HNC.out rfl h0
   rcases HRG.out with hx|⟨k,hk,rfl⟩
   ·omega
   have hmk:=HMD.out k rfl;rw[show((k:Int)).toNat=k from by omega]at hR'
   have HMK:=hid hmk;have HKK:=hid hk;have zz66:=PLift.up @c375;exact c373):p:=h
theorem c714 (h:p:=by
 have hT1:=HT.out.keep hkw HT.out.2.2.2.2;clear hcall hA0 hA1 hA2 hkA hk1;exact zz82.down):p:=h
theorem c715 (h:p:=by
 clear hB0 hB1 hB2 hk;rintro W' ⟨hB1,hB2,hk⟩;obtain⟨c0,c1,c2,c3,c4,c5⟩:=hB1.c6;obtain⟨d0,d1,d2,d3,d4,d5⟩:=hB2.c6;have f2:=hB2.free
 go_region
 go_wp2_with fail
 exact zz151.down):p:=h
theorem c716 (h:p:=by
 refine bp_gen (fun W=>Blk W (w.heap.size+1+1) [I u0,I u1,I u2,I u3,I u4,I (u5+n)]∧Keeps (· <w.heap.size) w W) ⟨?_,?_⟩ ?_
 ·exact c61
 ·exact kA
 clear hB1 hB2 hk c0 c1 c2 c3 c4 c5 d0 d1 d2 d3 d4 d5 f2;rintro W2 ⟨hB2,hk⟩;obtain⟨d0,d1,d2,d3,d4,d5⟩:=hB2.c6;refine bodyPost_ret (v:= .tuple #[I (b5+u5),.agg #[I u0,I u1,I u2,I u3,I u4,I (u5+n)],I 0]) ?_ rfl ?_
 ·exact c103
 ·exact c123):p:=h
theorem c717 (h:p:=by
 refine bp_gen (fun W=>Blk W (w.heap.size+1+1) [I (u0+n),I u1,I u2,I u3,I u4,I u5]∧Keeps (· <w.heap.size) w W) ⟨?_,?_⟩ ?_
 ·exact c61
 ·exact kA
 clear hB1 hB2 hk c0 c1 c2 c3 c4 c5 d0 d1 d2 d3 d4 d5 f2;rintro W2 ⟨hB2,hk⟩;obtain⟨d0,d1,d2,d3,d4,d5⟩:=hB2.c6;exact zz101.down):p:=h
theorem c718 (h:p:=by
 refine bp_gen (fun W=>Blk W (w.heap.size+1+1) [I u0,I (u1+n),I u2,I u3,I u4,I u5]∧Keeps (· <w.heap.size) w W) ⟨?_,?_⟩ ?_
 ·exact c61
 ·exact kA
 clear hB1 hB2 hk c0 c1 c2 c3 c4 c5 d0 d1 d2 d3 d4 d5 f2;rintro W2 ⟨hB2,hk⟩;obtain⟨d0,d1,d2,d3,d4,d5⟩:=hB2.c6;exact zz102.down):p:=h
theorem c719 (h:p:=by
 refine bp_gen (fun W=>Blk W (w.heap.size+1+1) [I u0,I u1,I (u2+n),I u3,I u4,I u5]∧Keeps (· <w.heap.size) w W) ⟨?_,?_⟩ ?_
 ·exact c61
 ·exact kA
 clear hB1 hB2 hk c0 c1 c2 c3 c4 c5 d0 d1 d2 d3 d4 d5 f2;rintro W2 ⟨hB2,hk⟩;obtain⟨d0,d1,d2,d3,d4,d5⟩:=hB2.c6;exact zz103.down):p:=h
theorem c720 (h:p:=by
 refine bp_gen (fun W=>Blk W (w.heap.size+1+1) [I u0,I u1,I u2,I (u3+n),I u4,I u5]∧Keeps (· <w.heap.size) w W) ⟨?_,?_⟩ ?_
 ·exact c61
 ·exact kA
 clear hB1 hB2 hk c0 c1 c2 c3 c4 c5 d0 d1 d2 d3 d4 d5 f2;rintro W2 ⟨hB2,hk⟩;obtain⟨d0,d1,d2,d3,d4,d5⟩:=hB2.c6;exact zz104.down):p:=h
theorem c721 (h:p:=by
 refine bp_gen (fun W=>Blk W (w.heap.size+1+1) [I u0,I u1,I u2,I u3,I (u4+n),I u5]∧Keeps (· <w.heap.size) w W) ⟨?_,?_⟩ ?_
 ·exact c61
 ·exact kA
 clear hB1 hB2 hk c0 c1 c2 c3 c4 c5 d0 d1 d2 d3 d4 d5 f2;rintro W2 ⟨hB2,hk⟩;obtain⟨d0,d1,d2,d3,d4,d5⟩:=hB2.c6;exact zz105.down):p:=h
theorem c722 (h:p:=by
 obtain⟨⟨b0,b1,b2,b3,b4,b5⟩,⟨s0,s1,s2,s3,s4,s5⟩,pc,ps,pl⟩:=p;obtain⟨u0,u1,u2,u3,u4,u5⟩:=u;simp only at h0 h2 h3 hb;obtain⟨hb0,hb1⟩:=hb;exact zz152.down):p:=h
theorem c723 (h:p:=by
 have hu4:u4≤s4:=by omega
 have zz114:=PLift.up @c574;exact c573):p:=h
theorem c724 (h:p:=by
 have hu4:u0≤s0:=by omega
 have zz114:=PLift.up @c575;exact c573):p:=h
theorem c725 (h:p:=by
 have hu4:u1≤s1:=by omega
 have zz114:=PLift.up @c576;exact c573):p:=h
theorem c726 (h:p:=by
 have hu4:u2≤s2:=by omega
 have zz114:=PLift.up @c577;exact c573):p:=h
theorem c727 (h:p:=by
 have hu4:u3≤s3:=by omega
 have zz114:=PLift.up @c578;exact c573):p:=h
theorem c728 (h:p:=by
 have hu4:u5≤s5:=by omega
 have zz114:=PLift.up @c579;exact c573):p:=h
theorem c729 (h:p:=by
 have hd1:decide (n<1)=false:=by simpa using h1
 exact zz116.down):p:=h
theorem c730 (h:p:=by
 have hnb9:=HNB.out.keep hkn (by show NB≠MB;omega)
 have hkk:=HK.out.trans (hkn.mono fun b hb=>by have hb:b<MB:=hb;show b≠MB;omega)
 exact zz153.down):p:=h
theorem c731 (h:p:=by
 have hfz:=hm.free 0;have hww:IntKind.i64.wrap (x0+n0)=x0+n0:=IntWalk.i64_in _ (by omega)
 have c0:=hm.cell 0;have c1:=HNB.out.cell 0;exact zz96.down):p:=h
theorem c732 (h:p:=by
 have hfz:=hm.free 1;have hww:IntKind.i64.wrap (x1+n1)=x1+n1:=IntWalk.i64_in _ (by omega)
 have c0:=hm.cell 1;have c1:=HNB.out.cell 1;exact zz97.down):p:=h
theorem c733 (h:p:=by
 have hfz:=hm.free 2;have hww:IntKind.i64.wrap (x2+n2)=x2+n2:=IntWalk.i64_in _ (by omega)
 have c0:=hm.cell 2;have c1:=HNB.out.cell 2;exact zz98.down):p:=h
theorem c734 (h:p:=by
 have hfz:=hm.free 3;have hww:IntKind.i64.wrap (x3+n3)=x3+n3:=IntWalk.i64_in _ (by omega)
 have c0:=hm.cell 3;have c1:=HNB.out.cell 3;exact zz99.down):p:=h
theorem c735 (h:p:=by
 have hfz:=hm.free 5;have hww:IntKind.i64.wrap (x5+n5)=x5+n5:=IntWalk.i64_in _ (by omega)
 have c0:=hm.cell 5;have c1:=HNB.out.cell 5;exact zz100.down):p:=h
theorem c736 (h:p:=by
 have H16:Hid (¬(904≤r∧r≤906)):=hid (fun g=>absurd (hb.2 g) (by decide))
 clear hb
 go_wp2_with fail
 exact zz154.down):p:=h
theorem c737 (h:p:=by
 refine(ref5_in r 910 911 w).mono ?_;rintro e w2 ⟨b,rfl,hb,rfl⟩
 cases b with
 |true=>
  have H17:Hid ((910≤r∧r≤911)):=hid (hb.1 rfl);clear hb;have hm:foldM r=r+63:=by have q0:=H0.out ;have q1:=H1.out ;have q2:=H2.out ;have q3:=H3.out ;have q4:=H4.out ;have q5:=H5.out ;have q6:=H6.out ;have q7:=H7.out ;have q8:=H8.out ;have q9:=H9.out ;have q10:=H10.out ;have q11:=H11.out ;have q12:=H12.out ;have q13:=H13.out ;have q14:=H14.out ;have q15:=H15.out ;have q16:=H16.out ;have q17:=H17.out ;rw[foldM_ifs] ;omega
  clear H0 H1 H2 H3 H4 H5 H6 H7 H8 H9 H10 H11 H12 H13 H14 H15 H16 H17;exact c11
 |false=>
  have H17:Hid (¬(910≤r∧r≤911)):=hid (fun g=>absurd (hb.2 g) (by decide))
  clear hb
  go_wp2_with fail
  refine(ref5_in r 1024 1039 w).mono ?_;rintro e w2 ⟨b,rfl,hb,rfl⟩
  cases b with
  |true=>
   have H18:Hid ((1024≤r∧r≤1039)):=hid (hb.1 rfl);clear hb;have hm:foldM r=r+80:=by have q0:=H0.out ;have q1:=H1.out ;have q2:=H2.out ;have q3:=H3.out ;have q4:=H4.out ;have q5:=H5.out ;have q6:=H6.out ;have q7:=H7.out ;have q8:=H8.out ;have q9:=H9.out ;have q10:=H10.out ;have q11:=H11.out ;have q12:=H12.out ;have q13:=H13.out ;have q14:=H14.out ;have q15:=H15.out ;have q16:=H16.out ;have q17:=H17.out ;have q18:=H18.out ;rw[foldM_ifs] ;omega
   exact c435
  |false=>
   have zz124:=PLift.up @c622;exact c621):p:=h
theorem c738 (h:p:=by
 refine(ref5_in r 910 911 w).mono ?_;rintro e w2 ⟨b,rfl,hb,rfl⟩
 cases b with
 |true=>
  have H17:Hid ((910≤r∧r≤911)):=hid (hb.1 rfl);exact c16
 |false=>
  have H17:Hid (¬(910≤r∧r≤911)):=hid (fun g=>absurd (hb.2 g) (by decide))
  clear hb
  go_wp2_with fail
  refine(ref5_in r 1024 1039 w).mono ?_;rintro e w2 ⟨b,rfl,hb,rfl⟩
  cases b with
  |true=>
   have H18:Hid ((1024≤r∧r≤1039)):=hid (hb.1 rfl);exact c395
  |false=>
   have zz124:=PLift.up @c623;exact c621):p:=h
theorem c739 (h:p:=by
 obtain⟨la,ld,ls⟩:=live;have hBase:=fun W'=>write_base ⟨la,ld,ls⟩ W' (by have h9:=Hlo.out;(try dsimp only at h9);show Small la;unfold Small;omega)
 generalize hlbe:SegM.base ⟨la,ld,ls⟩=lb at*;dsimp only at*;have hlbe2:=hlbe;clear hlbe;have HLBE:=hid hlbe2;clear hlbe2;have hw1:IntKind.i64.wrap ((segs.length:Int)-1)=(kl:Int):=by rw[IntWalk.i64_in _ (by have:=Hkl.out;omega)];have:=Hkl.out;omega
 have hkI:(kl:Int)<(segs.length:Int):=by have:=Hkl.out;omega
 have hlb4:b0<w4.heap.size:=by have h9:b0<B:=Hltt.out b0 Hkb.out;have:=hD1.b0.lt;omega
 have hblk:=hD1.kp.block b0 Hkb.out;have a0:=(World.cell?_of_block (a:=⟨b0,o0+kl*3+0,none⟩) hblk).trans (Gl.out 0 _ rfl);have a1:=(World.cell?_of_block (a:=⟨b0,o0+kl*3+1,none⟩) hblk).trans (Gl.out 1 _ rfl);have a2:=(World.cell?_of_block (a:=⟨b0,o0+kl*3+2,none⟩) hblk).trans (Gl.out 2 _ rfl);simp only[Nat.add_zero]at a0;have hcc:=(hD1).b0;rw[Hcli.out]at hcc
 obtain⟨c0,c1,c2,c3,c4,c5,c6,c7,c8,c9⟩:=hcc.c10;clear hcc;have hc1:=(hD1).b1;unfold WrM.vals at hc1;dsimp only at hc1;obtain⟨y0,y1,y2,y3,y4,y5,y6,y7,y8⟩:=hc1.c9;have hz:=(hD1).b3;unfold zer9 at hz;obtain⟨z0,z1,z2,z3,z4,z5,z6,z7,z8⟩:=hz.c9;have f:=hz.free;clear hc1 hz;have hl0:=hD1.b0.lt;have HD1:=hid hD1;have HP1:=hid hP1;have HT1:=hid hT1;have HBase:=hid hBase
 clear hD1 hP1 hT1 hBase;clear hblk
 go_upto_region 9 with fail
 have q0:=fun q:KC (· <w4.heap.size) w4=>q.cell hlb4 a0;have q1:=fun q:KC (· <w4.heap.size) w4=>q.cell hlb4 a1;have q2:=fun q:KC (· <w4.heap.size) w4=>q.cell hlb4 a2;have q3:=fun q:KC (· <w4.heap.size) w4=>q.cell hl0 c0;have hbq:=fun q:KC (· <w4.heap.size) w4=>q.calls ((HBase.out q.w).mono fun e w' h=>⟨h.1,h.2.mono fun b hb=>Nat.lt_of_lt_of_le hb q.k.size⟩);have HBQ:=hid hbq
 clear hbq HBase;have hw2:IntKind.i64.wrap (4*docs)=4*docs:=IntWalk.i64_in _ (by omega)
 have hw3:IntKind.i64.wrap (lb+4*docs)=lb+4*docs:=IntWalk.i64_in _ (by omega)
 refine wp_region_kc (· <w4.heap.size) (by kernel_rfl) (by kernel_rfl) ?_
 repeat(go_big_quiet_step (exact HBQ.out _))
 refine wpQuiet_nil ?_;rintro w5 ⟨⟨_,hk5⟩,rfl⟩;have hD2:=HD1.out.below hk5;have hP2:=HP1.out.keep hk5 HP1.out.lt;have hT2:=own_of_keep HT1.out hk5 fun b hb=>own_ne HT1.out b hb;clear HD1 HP1 HT1 HBQ q0 q1 q2 q3 a0 a1 a2 c0 c1 c2 c3 c4 c5 c6 c7 c8 c9 y0 y1 y2 y3 y4 y5 y6 y7 y8 z0 z1 z2 z3 z4 z5 z6 z7 z8 f hk5 hl0 hlb4;have hblk:=hD2.kp.block b0 Hkb.out;have a1:=(World.cell?_of_block (a:=⟨b0,o0+kl*3+1,none⟩) hblk).trans (Gl.out 1 _ rfl)
 have hcc:=(hD2).b0;rw[Hcli.out]at hcc;obtain⟨c0,c1,c2,c3,c4,c5,c6,c7,c8,c9⟩:=hcc.c10;clear hcc;have hoq:=fun q:KC (fun _=>True) w5=>q.calls (K:=fun _=>True) ((step_off (hD2.rm.keep _ q.k fun _ _ _=>trivial)).mono fun e w' h=>⟨h.1,by rw[←h.2];exact Keeps.refl _ _⟩)
 have HOQ:=hid hoq;clear hoq hblk;have HD2:=hid hD2;have HP2:=hid hP2;have HT2:=hid hT2;clear hD2 hP2 hT2
 go_upto_region 10 with fail
 have q1:=fun q:KC (fun _=>True) w5=>q.cell trivial a1;have q3:=fun q:KC (fun _=>True) w5=>q.cell trivial c0;exact zz155.down):p:=h
theorem c740 (h:p:=by
 have HX:=hid (hx);clear hx
 cases hof:sp.isOff with
 |true=>
  rw[hof]at HOQ;exact c23
 |false=>
  rw[hof]at HOQ;have hge:docs≤(ld:Int):=by have h9:=HX.out.resolve_left (by rw[hof];decide);rw[Hcdo.out]at h9;exact h9
  have hgb:decide ((ld:Int)≥docs)=true:=decide_eq_true hge;have hgb2:decide (docs≤(ld:Int))=true:=decide_eq_true hge;exact c23):p:=h
theorem c741 (h:p:=by
 have hge:¬docs≤(ld:Int):=by have:=Hcdo.out;omega
 have hgb:decide ((ld:Int)≥docs)=false:=decide_eq_false hge;have hgb2:decide (docs≤(ld:Int))=false:=decide_eq_false hge;rw[ho1]at HOQ;clear ho1 hx;have zz169:=PLift.up @c786;exact c784):p:=h
theorem c742 (h:p:=by
 obtain⟨segs,wt,wv,u0,u1,u2,u3,u4,u5⟩:=W;obtain⟨hv0,hv1⟩:=hv;obtain⟨ht0,ht1⟩:=htm;dsimp only at*;have hltt:=h.lt;have hcfl:∃docs terms q0 q1 q2 q3 book room kk bb,cf=⟨docs,terms,q0,q1,q2,q3,book,room,kk,bb⟩:=⟨_,_,_,_,_,_,_,_,_,_,rfl⟩;obtain⟨docs,terms,q0,q1,q2,q3,book,room,kk,bb,hcfe⟩:=hcfl;have hcdo:cf.docs=docs:=by rw[hcfe]
 have hcte:cf.terms=terms:=by rw[hcfe]
 have hcli:cf.list=[I docs,I terms,I q0,I q1,I q2,I q3,I book,I room,kk,bb]:=by rw[hcfe];rfl
 have hd1:1≤docs∧docs≤64:=by rw[←hcdo];exact⟨hcf.1.d0,hcf.1.d1⟩
 have htt1:64≤terms∧terms≤256:=by rw[←hcte];exact⟨hcf.1.t0,hcf.1.t1⟩
 obtain⟨hd0,hd1⟩:=hd1;obtain⟨htt0,htt1⟩:=htt1;obtain⟨kl,hkl,hlx⟩:=last_ix hlive;obtain⟨b0,o0,rfl,hkb,gl⟩:=SlAt.rec (SegM.len3 segs) hsl kl live hlx;have hlo:=hok live (List.mem_of_getElem? hlx);have hpf:=plan_facts hcf.1 hcf.2;have hlay:=fun W' hT'=>pool_lay cf W' hT';have hlay:∀W',PTab W'→Z 41 #[.agg cf.list.toArray] W' fun e w'=>e= .returned (.tuple #[cf.plan.val,I 0])∧Keeps (· <W'.heap.size) W' w':=fun W' hT'=>(hlay W' hT').mono fun e w' ⟨h1,h2⟩=>⟨(h1.resolve_right fun x=>x.1 hcf).2,h2⟩
 rw[hcli]at hlay;generalize cf.plan=p at*;unfold WrM.vals at*;dsimp only at*;rw[hcli];have H:=hid h;have HK0:=hid hK0;have HT:=hid hT;have HF:=hid hF;have Hcf:=hid hcf;have Hpf:=hid hpf;have Hlay:=hid hlay;have Hlive:=hid hlive;have Hsl:=hid hsl;have Hkl:=hid hkl;have Hlx:=hid hlx;have Hkb:=hid hkb;have Gl:=hid gl;have Hlo:=hid hlo;have Hfl:=hid hfl;have Hok:=hid hok
 have Hu:=hid hu;have Hltt:=hid hltt;have Hcdo:=hid hcdo;have Hcte:=hid hcte;have Hcli:=hid hcli;clear h hK0 hT hF hcf hpf hlay hlive hsl hkl hlx hkb gl hlo hfl hok hu hltt hcdo hcte hcli;clear hcfe;refine calls_hide fun R' hR'=>?_
 go_enter Tryz.func36,Tryz.ntmps36
 go_wp2_with fail
 refine calls_gen (fun W0=>Blk W0 w.heap.size cf.list∧Blk W0 (w.heap.size+1) (WrM.vals ⟨segs,wt,wv,⟨u0,u1,u2,u3,u4,u5⟩⟩ (.slice (some ⟨b0,o0,none⟩) segs.length cp))∧Blk W0 (w.heap.size+1+1) [J id,.slice FA fs.length fc]∧Blk W0 (w.heap.size+1+1+1) zer9∧Keeps (· <w.heap.size) w W0) ⟨?_,?_,?_,?_,?_⟩ (fun W0 HW=>?_)
 ·rw[Hcli.out];exact bA
 ·exact c137
 ·exact bA
 ·unfold zer9;exact bA
 ·exact kA
 generalize hBB:w.heap.size=B at*;obtain⟨hA0,hA1,hA2,hA3,hkA⟩:=HW;have hfl0:=Hfl.out.keep hkA fun b hb=>Hltt.out b hb;have hF0:=HF.out.keep (w':=W0) (by rw[hBB];exact hkA)
 refine(token_tokens fs FA fc W0 (fun b=>K b) (fun b hb=>by have:=hkA.size;have h9:b<B:=Hltt.out b hb;omega) hfl0 hF0 hfn).mono ?_
 rintro e w1 ⟨hpo,hk1⟩;rw[htk]at hpo;dsimp only at hpo;exact zz156.down):p:=h
theorem c743 (h:p:=by
 have zz127:=PLift.up @c632;exact c631):p:=h
theorem c744 (h:p:=by
 exact zz73.down):p:=h
end Go.Proofs.YtogdknnkhkjmcaaGreatDoor
