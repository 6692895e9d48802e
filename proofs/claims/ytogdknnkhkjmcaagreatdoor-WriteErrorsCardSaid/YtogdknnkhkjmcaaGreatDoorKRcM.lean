/- Lemmas on the programs that the statement reaches. -/
import Derived.Test.YtogdknnkhkjmcaaGreatDoorKRcF
import Derived.Test.YtogdknnkhkjmcaaGreatDoorKWrL4
namespace Go.Proofs.YtogdknnkhkjmcaaGreatDoor
open Go.RowKit
set_option linter.all false
def wr0:List Value:=[.slice none 0 0,.int .i64 0,.int .u32 0,.int .i64 0,.int .i64 0,.int .i64 0,.int .i64 0,.int .i64 0,.int .i64 0]
theorem blk_out9 {w:World}{b:Nat}{l:List Value}(h:Blk w b l)(hl:l.length=9)(v0 v1 v2 v3 v4 v5 v6 v7 v8:Value):Blk (((((((((w.setCell ⟨b,0,none⟩ (v0)).setCell ⟨b,1,none⟩ (v1)).setCell ⟨b,2,none⟩ (v2)).setCell ⟨b,3,none⟩ (v3)).setCell ⟨b,4,none⟩ (v4)).setCell ⟨b,5,none⟩ (v5)).setCell ⟨b,6,none⟩ (v6)).setCell ⟨b,7,none⟩ (v7)).setCell ⟨b,8,none⟩ (v8)) b [v0,v1,v2,v3,v4,v5,v6,v7,v8]:=by
 have h2:=((((((((h.set 0 v0).set 1 v1).set 2 v2).set 3 v3).set 4 v4).set 5 v5).set 6 v6).set 7 v7).set 8 v8
 match l,hl with
 | [a0,a1,a2,a3,a4,a5,a6,a7,a8],_=>exact h2
theorem mem_storeZ {w:World}{m c:Nat}{μ:MemS}(h:MemAt w m c μ)(a v:Int)(hv:U32 v):
  Z 44 #[.pointer (some ⟨m,0,none⟩),I a,J v] w fun e w'=>
   (∃z:Int,e= .returned (I z))∧MemAt w' m c (μ.store a v)∧Keeps (fun b=>b≠m∧b≠c) w w':=
 (mem_store h a v hv).mono fun _ _ ⟨h1,h2,h3⟩=>⟨⟨_,h1⟩,h2,h3⟩
theorem keeps_out9 {K:Nat→Prop}{w0 w:World}{b:Nat}(h:Keeps K w0 w)(hb:¬K b)(v0 v1 v2 v3 v4 v5 v6 v7 v8:Value):Keeps K w0 (((((((((w.setCell ⟨b,0,none⟩ (v0)).setCell ⟨b,1,none⟩ (v1)).setCell ⟨b,2,none⟩ (v2)).setCell ⟨b,3,none⟩ (v3)).setCell ⟨b,4,none⟩ (v4)).setCell ⟨b,5,none⟩ (v5)).setCell ⟨b,6,none⟩ (v6)).setCell ⟨b,7,none⟩ (v7)).setCell ⟨b,8,none⟩ (v8)):=
 ((((((((h.setCell (p:=⟨b,0,none⟩) hb v0).setCell (p:=⟨b,1,none⟩) hb v1).setCell (p:=⟨b,2,none⟩) hb v2).setCell (p:=⟨b,3,none⟩) hb v3).setCell (p:=⟨b,4,none⟩) hb v4).setCell (p:=⟨b,5,none⟩) hb v5).setCell (p:=⟨b,6,none⟩) hb v6).setCell (p:=⟨b,7,none⟩) hb v7).setCell (p:=⟨b,8,none⟩) hb v8
set_option maxRecDepth 100000 in
set_option maxHeartbeats 4000000 in
theorem new_bad {w:World}(hT:PTab w)(cf:ConfM)(hcf:¬(cf.ok∧cf.all≤65536))(mp:Value):
  Z 30 #[mp,.agg cf.list.toArray] w fun e w'=>e= .returned (.tuple #[.agg wr0.toArray,I 1])∧Keeps (· <w.heap.size) w w':=by
 have zz109:=PLift.up @c553;exact c552
set_option maxRecDepth 100000 in
set_option maxHeartbeats 8000000 in
theorem new_good {w:World}(hT:PTab w)(cf:ConfM)(hcf:cf.ok∧cf.all≤65536){m c:Nat}{μ:MemS}(h:MemAt w m c μ)(hm0:m≠0)(hc0:c≠0)(hne:(μ.cells.length:Int)=cf.all)(hfu:¬cf.plan.size.a5<cf.plan.live+2)(hlv:1≤cf.plan.live∧cf.plan.live≤1000)(hb5:0≤cf.plan.base.a5∧cf.plan.base.a5≤65536):
  Z 30 #[.pointer (some ⟨m,0,none⟩),.agg cf.list.toArray] w fun e w'=>∃g,w.heap.size≤g∧
   e= .returned (.tuple #[.agg (WrM.vals ⟨[⟨cf.plan.base.a5,0,false⟩],0,0,⟨0,0,0,0,0,cf.plan.live+2⟩⟩ (.slice (some ⟨g,0,none⟩) 1 1)).toArray,I 0])∧Blk w' g (SegM.cells ⟨cf.plan.base.a5,0,false⟩)∧
   MemAt w' m c (((μ.store (cf.plan.base.a5+cf.plan.live) 1).store (cf.plan.base.a5+cf.plan.live+1) cf.plan.base.a5).store 2 (cf.plan.base.a5+cf.plan.live))∧Keeps (fun b=>b<w.heap.size∧b≠m∧b≠c) w w':=by
 have hms:=h.small;have hml:=h.obj.lt;have hcl:=h.cells.lt;have hlen:=fun W (hk:Keeps (· <w.heap.size) w W)=>mem_len (h.keep hk hml hcl);obtain⟨n,hnn⟩:∃n,n=μ.cells.length:=⟨_,rfl⟩;rw[←hnn]at hne hlen hms;obtain⟨mp,hmp⟩:∃mp:Value,mp= .pointer (some ⟨m,0,none⟩):=⟨_,rfl⟩;rw[←hmp]at hlen;rw[←hmp];have Hmp:=hid hmp;clear hnn hmp;have H:=hid h;clear h;have hca:cf.plan.cells=cf.all:=rfl
 rw[←hca]at hne;clear hca;have zz109:=PLift.up @c554;exact c552
def st0:List Value:=[.slice none 0 0,.slice none 0 0,.int .i64 0,.int .u32 0,.int .i64 0,.int .i64 0,.int .i64 0,.int .i64 0,.int .i64 0,.int .i64 0]
theorem blk_out10 {w:World}{b:Nat}{l:List Value}(h:Blk w b l)(hl:l.length=10)(v0 v1 v2 v3 v4 v5 v6 v7 v8 v9:Value):Blk ((((((((((w.setCell ⟨b,0,none⟩ (v0)).setCell ⟨b,1,none⟩ (v1)).setCell ⟨b,2,none⟩ (v2)).setCell ⟨b,3,none⟩ (v3)).setCell ⟨b,4,none⟩ (v4)).setCell ⟨b,5,none⟩ (v5)).setCell ⟨b,6,none⟩ (v6)).setCell ⟨b,7,none⟩ (v7)).setCell ⟨b,8,none⟩ (v8)).setCell ⟨b,9,none⟩ (v9)) b [v0,v1,v2,v3,v4,v5,v6,v7,v8,v9]:=by
 have h2:=(((((((((h.set 0 v0).set 1 v1).set 2 v2).set 3 v3).set 4 v4).set 5 v5).set 6 v6).set 7 v7).set 8 v8).set 9 v9
 match l,hl with
 | [a0,a1,a2,a3,a4,a5,a6,a7,a8,a9],_=>exact h2
theorem keeps_out10 {K:Nat→Prop}{w0 w:World}{b:Nat}(h:Keeps K w0 w)(hb:¬K b)(v0 v1 v2 v3 v4 v5 v6 v7 v8 v9:Value):Keeps K w0 ((((((((((w.setCell ⟨b,0,none⟩ (v0)).setCell ⟨b,1,none⟩ (v1)).setCell ⟨b,2,none⟩ (v2)).setCell ⟨b,3,none⟩ (v3)).setCell ⟨b,4,none⟩ (v4)).setCell ⟨b,5,none⟩ (v5)).setCell ⟨b,6,none⟩ (v6)).setCell ⟨b,7,none⟩ (v7)).setCell ⟨b,8,none⟩ (v8)).setCell ⟨b,9,none⟩ (v9)):=
 ((((((((((h.setCell (p:=⟨b,0,none⟩) hb v0).setCell (p:=⟨b,1,none⟩) hb v1).setCell (p:=⟨b,2,none⟩) hb v2).setCell (p:=⟨b,3,none⟩) hb v3).setCell (p:=⟨b,4,none⟩) hb v4).setCell (p:=⟨b,5,none⟩) hb v5).setCell (p:=⟨b,6,none⟩) hb v6).setCell (p:=⟨b,7,none⟩) hb v7).setCell (p:=⟨b,8,none⟩) hb v8).setCell (p:=⟨b,9,none⟩) hb v9)
theorem own_base {w:World}{B E sz n:Nat}{v:Value}{xs:List Value}(h:w.ownsRow 0 E sz v n xs)(hb:∀b,v.ownBlock=some b→B≤b):w.ownsRow B E sz v n xs:=
 ⟨h.1,h.2.imp (fun h=>h) (fun⟨a,b,c,d⟩=>⟨a,b,c,d.1,hb a (by rw[d.1];rfl),d.2.2⟩)⟩
set_option maxRecDepth 100000 in
set_option maxHeartbeats 4000000 in
theorem ref12_copied (cs:List Int)(segs:List SegM)(wt wv u0 u1 u2 u3 u4 u5:Int)(A:Option Addr)(cp:Nat)(A2:Option Addr)(cp2:Nat)(w:World)(K:Nat→Prop)(hb:∀b,K b→b<w.heap.size)(hsl:SlAt w K 1 (.slice A cs.length cp) cs.length (cs.map (Value.int .u32)))(hn0:0<cs.length)(hcn:cs.length≤65536)
  (hs2:SlAt w K 3 (.slice A2 segs.length cp2) segs.length (segs.flatMap SegM.cells)) (hl0:0<segs.length) (hn:segs.length≤65536):
  Z 58 #[.agg #[.slice A cs.length cp,.slice A2 segs.length cp2,I wt,J wv,I u0,I u1,I u2,I u3,I u4,I u5]] w fun e w'=>∃nb A3 cp3,
   e= .returned (.agg #[.slice (some ⟨nb,0,none⟩) cs.length cs.length,.slice A3 segs.length cp3,I wt,J wv,I u0,I u1,I u2,I u3,I u4,I u5])∧w.heap.size≤nb∧Blk w' nb (cs.map (Value.int .u32))∧w'.ownsRow w.heap.size 65 3 (.slice A3 segs.length cp3) segs.length (segs.flatMap SegM.cells)∧(∀b,(Value.slice A3 segs.length cp3).ownBlock=some b→b≠nb)∧Keeps (· <w.heap.size) w w':=by
 obtain⟨A',cap,h1,h2,h3,h4,h5⟩:=hs2;injection h1 with h1 _ h1c
 subst h1 h1c;obtain⟨b,off,rfl,hkb,hc⟩:=h5 hl0;have hbl:=hb b hkb;clear hkb h5;have Hc:=hid hc;have Hb:=hid hb;have Hsl:=hid hsl;clear hc hb hsl;refine calls_hide fun R' hR'=>?_
 go_enter Tryz.func58,Tryz.ntmps58
 go_wp2_with fail
 refine calls_gen (fun W=>Blk W w.heap.size [.slice A cs.length cp,.slice (some ⟨b,off,none⟩) segs.length cp2,I wt,J wv,I u0,I u1,I u2,I u3,I u4,I u5]∧Blk W (w.heap.size+1) st0∧Keeps (· <w.heap.size) w W) ⟨?_,?_,?_⟩ (fun W0 HW=>?_)
 ·exact bA
 ·unfold st0;exact bA
 ·exact kA
 obtain⟨hA0,hA1,hkA⟩:=HW;refine(ref01_copy cs A cp W0 K (fun b hb=>Nat.lt_of_lt_of_le (Hb.out b hb) hkA.size) (Hsl.out.keep hkA Hb.out) hn0 hcn).mono ?_;rintro e w1 ⟨rfl,hN1,hk1⟩;have hB0:=hA0.keep hk1 hA0.lt;have hB1:=hA1.keep hk1 hA1.lt;have hz0:=hA1.lt;have hkB:Keeps (· <w.heap.size) w w1:=hkA.trans (hk1.mono fun b hb=>Nat.lt_of_lt_of_le hb hkA.size);have hBb:=hbl;generalize hBB:w.heap.size=B at*
 generalize hNB:W0.heap.size=NB at*;clear hA0 hA1 hk1;obtain⟨y0,y1,y2,y3,y4,y5,y6,y7,y8,y9⟩:=hB0.c10;have f0:=hB0.free 0;have hst:=hB0.set 0 (.slice (some ⟨NB,0,none⟩) cs.length cs.length);have hst:Blk (w1.setCell ⟨B,0,none⟩ (.slice (some ⟨NB,0,none⟩) cs.length cs.length)) B [.slice (some ⟨NB,0,none⟩) cs.length cs.length,.slice (some ⟨b,off,none⟩) segs.length cp2,I wt,J wv,I u0,I u1,I u2,I u3,I u4,I u5]:=hst
 have hN2:=hN1.set_ne (a:=⟨B,0,none⟩) (.slice (some ⟨NB,0,none⟩) cs.length cs.length) (by show NB≠B;omega)
 have hC1:=hB1.set_ne (a:=⟨B,0,none⟩) (.slice (some ⟨NB,0,none⟩) cs.length cs.length) (by show B+1≠B;omega)
 have hkC:=hkB.setCell (p:=⟨B,0,none⟩) (fun h=>by have h:B<B:=h;omega) (.slice (some ⟨NB,0,none⟩) cs.length cs.length)
 clear hB0 hB1 hN1 hkB;have Hst:=hid hst;have HN2:=hid hN2;have HC1:=hid hC1;have HkC:=hid hkC;clear hst hN2 hC1 hkC
 go_upto_region 2 with fail
 generalize w1.setCell ⟨B,0,none⟩ (.slice (some ⟨NB,0,none⟩) cs.length cs.length)=w2 at*;clear y0 y1 y2 y3 y4 y5 y6 y7 y8 y9 f0;have hcc:∀j u,(segs.flatMap SegM.cells)[j]? =some u→(w2.alloc (.cells #[] 65)).cell? ((⟨b,off,none⟩:Addr).add j)=some u:=fun j u hu=>by
  rw[Addr.add_lit];exact(World.cell?_of_block (a:=⟨b,off+j,none⟩) ((HkC.out.trans (((Keeps.refl (· <w2.heap.size) w2).alloc (fun b hb=>hb) _).mono fun b hb=>by have:=HC1.out.lt;omega)).block b hBb)).trans (Hc.out j u hu)
 have hone:∀u∈segs.flatMap SegM.cells,u.oneCell'=true:=fun u hu=>by
  exact c140
 have hlen:(segs.flatMap SegM.cells).length=segs.length*3:=h4;have hD0:=Hst.out.alloc (.cells #[] 65);have hD1:=HC1.out.alloc (.cells #[] 65);have hDN:=HN2.out.alloc (.cells #[] 65);have hkD:=HkC.out.trans (((Keeps.refl (· <w2.heap.size) w2).alloc (fun b hb=>hb) (.cells #[] 65)).mono fun b hb=>by have:=HC1.out.lt;omega)
 have hsz:=World.size_alloc w2 (.cells #[] 65);have hNl:=HN2.out.lt;have hBl:=Hst.out.lt;have hcst:=Hst.out;obtain⟨y0,y1,y2,y3,y4,y5,y6,y7,y8,y9⟩:=hcst.c10;clear hcst Hst HC1 HN2 HkC;obtain⟨i0,hi,hz0',hz1,hz2⟩:=info_partsF Tryz.infoSeg;have Hcc:=hid hcc;have Hone:=hid hone;have Hlen:=hid hlen;have HD0:=hid hD0;have HD1:=hid hD1;have HDN:=hid hDN;have HkD:=hid hkD
 have Hsz:=hid hsz;clear hcc hone hlen hD0 hD1 hDN hkD hsz
 go_wp2_with (at_builtin;go_must (refine wpList_append_own_at _ rfl _ _ 44 rfl w2.heap.size 65 i0 (.agg #[I 0,I 0,.bool false]) 3 24 Tryz.underlying44 hi hz0' hz1 hz2 rfl (by decide) (.slice (some ⟨w2.heap.size,0,none⟩) 0 0) 0 [] rfl (own_lit w2 w2.heap.size _ _ 3 0 [] rfl rfl (by decide) (Nat.le_refl _)) ⟨b,off,none⟩ segs.length cp2 (segs.flatMap SegM.cells) rfl Hlen.out Hcc.out ?_ ?_ ?_ ?_ ?_))
 all_goals(try(first|exact Hone.out|exact fun u x hx hu=>Hone.out u (List.mem_flatMap.2 ⟨x,hx,hu⟩)|(simp only[maxLen];omega)|omega|(simp;done)|(simp;omega)))
 intro v' w7 hown hgr _ hf;obtain⟨A3,cp3,rfl⟩:=ownB_form hown;have hkg:Keeps (· <w2.heap.size) (w2.alloc (.cells #[] 65)) w7:=keeps_append (fun b hb=>by have hb:b<w2.heap.size:=hb;have:=Hsz.out;omega) (fun b hb hk=>by have hk:b<w2.heap.size:=hk;have hb:some w2.heap.size=some b:=hb;injection hb with hb;omega) hgr
 have hE0:=HD0.out.keep hkg hBl;have hE1:=HD1.out.keep hkg (by omega)
 have hEN:=HDN.out.keep hkg hNl;have hkE:=HkD.out.trans (hkg.mono fun b hb=>by omega)
 have hge:∀b,(Value.slice A3 segs.length cp3).ownBlock=some b→w2.heap.size≤b:=fun b hb=>(ownB_lt hown hb).1;clear y0 y1 y2 y3 y4 y5 y6 y7 y8 y9 hkg hgr hf HD0 HD1 HDN HkD Hcc Hone Hlen hi hz0' hz1 hz2;generalize hQB:w2.heap.size=QB at*;have hE0':=hE0;obtain⟨y0,y1,y2,y3,y4,y5,y6,y7,y8,y9⟩:=hE0'.c10;have f1:=hE0'.free 1;have hst:=hE0.set 1 (.slice A3 segs.length cp3)
 have hst:Blk (w7.setCell ⟨B,1,none⟩ (.slice A3 segs.length cp3)) B [.slice (some ⟨NB,0,none⟩) cs.length cs.length,.slice A3 segs.length cp3,I wt,J wv,I u0,I u1,I u2,I u3,I u4,I u5]:=hst;have hF1:=hE1.set_ne (a:=⟨B,1,none⟩) (.slice A3 segs.length cp3) (by show B+1≠B;omega)
 have hFN:=hEN.set_ne (a:=⟨B,1,none⟩) (.slice A3 segs.length cp3) (by show NB≠B;omega)
 have hkF:=hkE.setCell (p:=⟨B,1,none⟩) (fun h=>by have h:B<B:=h;omega) (.slice A3 segs.length cp3)
 have hoF:=ownsRow_setCell_other hown (a:=⟨B,1,none⟩) (fun e=>by have:=hge B e;omega) (.slice A3 segs.length cp3)
 clear hE0 hE0' hE1 hEN hkE hown;have Hst:=hid hst;have HF1:=hid hF1;have HFN:=hid hFN;have HkF:=hid hkF;have HoF:=hid hoF;have Hge:=hid hge;clear hst hF1 hFN hkF hoF hge
 go_upto_region 5 with fail
 generalize w7.setCell ⟨B,1,none⟩ (.slice A3 segs.length cp3)=w8 at*;clear y0 y1 y2 y3 y4 y5 y6 y7 y8 y9 f1;have hc1:=Hst.out;obtain⟨y0,y1,y2,y3,y4,y5,y6,y7,y8,y9⟩:=hc1.c10;have hz:=HF1.out;unfold st0 at hz;obtain⟨z0,z1,z2,z3,z4,z5,z6,z7,z8,z9⟩:=hz.c10;have f:=hz.free;clear hc1 hz
 iterate 8 (first|go_values|go_skip|go_guarded|go_step|go_upon|go_back)
 iterate 2 (first|go_values|go_skip|go_guarded|go_step|go_upon|go_back)
 go_step
 have hE:=(blk_out10 HF1.out rfl (.slice (some ⟨NB,0,none⟩) cs.length cs.length) (.slice A3 segs.length cp3) (I wt) (J wv) (I u0) (I u1) (I u2) (I u3) (I u4) (I u5));have hkk:=(keeps_out10 (b:=B+1) HkF.out (fun h=>by have h:B+1<B:=h;omega) (.slice (some ⟨NB,0,none⟩) cs.length cs.length) (.slice A3 segs.length cp3) (I wt) (J wv) (I u0) (I u1) (I u2) (I u3) (I u4) (I u5))
 have hkn:=(keeps_out10 (K:=(· ≠B+1)) (b:=B+1) (Keeps.refl _ w8) (fun h=>h rfl) (.slice (some ⟨NB,0,none⟩) cs.length cs.length) (.slice A3 segs.length cp3) (I wt) (J wv) (I u0) (I u1) (I u2) (I u3) (I u4) (I u5));generalize ((((((((((w8.setCell ⟨B+1,0,none⟩ (.slice (some ⟨NB,0,none⟩) cs.length cs.length)).setCell ⟨B+1,1,none⟩ (.slice A3 segs.length cp3)).setCell ⟨B+1,2,none⟩ (I wt)).setCell ⟨B+1,3,none⟩ (J wv)).setCell ⟨B+1,4,none⟩ (I u0)).setCell ⟨B+1,5,none⟩ (I u1)).setCell ⟨B+1,6,none⟩ (I u2)).setCell ⟨B+1,7,none⟩ (I u3)).setCell ⟨B+1,8,none⟩ (I u4)).setCell ⟨B+1,9,none⟩ (I u5))=WZ at*
 obtain⟨d0,d1,d2,d3,d4,d5,d6,d7,d8,d9⟩:=hE.c10;refine bodyPost_ret (v:= .agg #[.slice (some ⟨NB,0,none⟩) cs.length cs.length,.slice A3 segs.length cp3,I wt,J wv,I u0,I u1,I u2,I u3,I u4,I u5]) ?_ rfl ?_
 ·simp[results,Tryz.results58,go_sem,d0,d1,d2,d3,d4,d5,d6,d7,d8,d9]
 ·refine hR'.out _ _ ⟨NB,A3,cp3,rfl,by omega,HFN.out.keep hkn (by show NB≠B+1;omega),?_,fun b hb=>by have:=Hge.out b hb;omega,hkk⟩
  have h9:=own_of_keep (own_any HoF.out) hkn fun b hb=>by have:=Hge.out b hb;show b≠B+1;omega
  exact own_base h9 fun b hb=>by have:=Hge.out b hb;omega
def rdelL (s:RefS)(id:Int):Int×RefS:=
 if(rplaceL s.cells id s.W.segs 0).2.2=false then(7,s)else
 match s.W.segs[(rplaceL s.cells id s.W.segs 0).1.toNat]? with
 |none=>(7,s)
 |some x=>if s.cells.getD (x.base+4*(rplaceL s.cells id s.W.segs 0).2.1+3).toNat 0≠0 then(7,s)else
  (0,⟨(s.cells.set (x.base+4*(rplaceL s.cells id s.W.segs 0).2.1+3).toNat (s.W.ver+1)).set 1 (s.W.ver+1),{ s.W with ver:=s.W.ver+1 }⟩)
set_option maxRecDepth 100000 in
set_option maxHeartbeats 4000000 in
theorem ref12_del_none (cs:List Int)(segs:List SegM)(wt wv u0 u1 u2 u3 u4 u5:Int)(id:Int)(A:Option Addr)(cp:Nat)(A2:Option Addr)(cp2:Nat)(w:World)(K:Nat→Prop)(hb:∀b,K b→b<w.heap.size)(hsl:SlAt w K 1 (.slice A cs.length cp) cs.length (cs.map (Value.int .u32)))(hn0:0<cs.length)(hcn:cs.length≤65536)
  (hs2:SlAt w K 3 (.slice A2 segs.length cp2) segs.length (segs.flatMap SegM.cells)) (hl0:0<segs.length) (hn:segs.length≤65536) (hok:∀x∈segs,(-1099511627700≤x.addr∧x.addr≤1099511627700)∧x.docs≤65536)
  {i d:Int} (hq:rplaceL cs id segs 0=(i,d,false)):
  Z 37 #[.agg #[.slice A cs.length cp,.slice A2 segs.length cp2,I wt,J wv,I u0,I u1,I u2,I u3,I u4,I u5],J id] w fun e w'=>e= .returned (.tuple #[I 7,.agg #[.slice A cs.length cp,.slice A2 segs.length cp2,I wt,J wv,I u0,I u1,I u2,I u3,I u4,I u5]])∧Keeps (· <w.heap.size) w w':=by
 have zz19:=PLift.up @c203;exact c202
set_option maxRecDepth 100000 in
set_option maxHeartbeats 4000000 in
theorem ref12_del_found (cs:List Int)(segs:List SegM)(wt wv u0 u1 u2 u3 u4 u5:Int)(id:Int)(A:Option Addr)(cp:Nat)(A2:Option Addr)(cp2:Nat)(w:World)(K:Nat→Prop)(hb:∀b,K b→b<w.heap.size)(hsl:SlAt w K 1 (.slice A cs.length cp) cs.length (cs.map (Value.int .u32)))(hn0:0<cs.length)(hcn:cs.length≤65536)
  (hs2:SlAt w K 3 (.slice A2 segs.length cp2) segs.length (segs.flatMap SegM.cells)) (hl0:0<segs.length) (hn:segs.length≤65536) (hok:∀x∈segs,(-1099511627700≤x.addr∧x.addr≤1099511627700)∧x.docs≤65536)
  {p:Nat} {d:Int} {x:SegM} {q:Nat} (hq:rplaceL cs id segs 0=((p:Int),d,true)) (hx:segs[p]? =some x) (hd:0≤d∧d≤65536) (hqa:x.base+4*d+3=(q:Int)) (hql:q<cs.length) (hc1:1<cs.length) (hu:∀y∈cs,U32 y) (hv:0≤wv∧wv≤4294967294):
  Z 37 #[.agg #[.slice A cs.length cp,.slice A2 segs.length cp2,I wt,J wv,I u0,I u1,I u2,I u3,I u4,I u5],J id] w fun e w'=>(if cs.getD q 0≠0 then e= .returned (.tuple #[I 7,.agg #[.slice A cs.length cp,.slice A2 segs.length cp2,I wt,J wv,I u0,I u1,I u2,I u3,I u4,I u5]])else∃nb A3 cp3,e= .returned (.tuple #[I 0,.agg #[.slice (some ⟨nb,0,none⟩) cs.length cs.length,.slice A3 segs.length cp3,I wt,J (wv+1),I u0,I u1,I u2,I u3,I u4,I u5]])∧w.heap.size≤nb∧Blk w' nb (((cs.set q (wv+1)).set 1 (wv+1)).map (Value.int .u32))∧w'.ownsRow w.heap.size 65 3 (.slice A3 segs.length cp3) segs.length (segs.flatMap SegM.cells))∧Keeps (· <w.heap.size) w w':=by
 have zz19:=PLift.up @c204;exact c202
end Go.Proofs.YtogdknnkhkjmcaaGreatDoor
