/- The reference of layer 12 (write): contract of Add, way 6. Printed by gen/rcadd.py. -/
import Derived.Test.YtogdknnkhkjmcaaGreatDoorJRcS5
import Derived.Test.YtogdknnkhkjmcaaGreatDoorJRcQ
import Derived.Test.YtogdknnkhkjmcaaGreatDoorGoodI
namespace Go.Proofs.YtogdknnkhkjmcaaGreatDoor
open Go.RowKit
set_option linter.all false
set_option maxRecDepth 100000 in
set_option maxHeartbeats 16000000 in
theorem radd_good (cs:List Int)(segs:List SegM)(wt wv u0 u1 u2 u3 u4 u5:Int)(cf:ConfM)(p:PlanM)(live:SegM)(id:Int)(fs:List ByteArray)(FA:Option Addr)(fc:Nat)(A:Option Addr)(cp:Nat)(A2:Option Addr)(cp2:Nat)(w:World)(K:Nat→Prop)(hb:∀b,K b→b<w.heap.size)
  (hsl:SlAt w K 1 (.slice A cs.length cp) cs.length (cs.map (Value.int .u32))) (hn0:0<cs.length) (hcn:cs.length≤65536) (hs2:SlAt w K 3 (.slice A2 segs.length cp2) segs.length (segs.flatMap SegM.cells)) (hlive:segs.getLast?=some live) (hn:segs.length≤65536)
  (hok:∀x∈segs,(-1099511627700≤x.addr∧x.addr≤1099511627700)∧x.docs≤65536) (hfl:SlAt w K 1 (.slice FA fs.length fc) fs.length (fs.map Value.string)) (hfn:fs.length≤1000000) (hcf:cf.ok)
  {toks:List TokI} (htk:toksM fs=some toks) {pi pd:Int} (hq:rplaceL cs id segs 0=(pi,pd,false)) (hx:¬cf.docs≤(live.docs:Int)) (P:Pools) (hP:P.ok) (hl:p.lays P) (hpf:PlanOk p) (s0:Nat) (hs0:live.addr+1+4*cf.docs=(s0:Int)) (hs1:s0≤65536) (hu:∀y∈cs,U32 y) (hwt0:0≤wt∧wt≤65536) (hv:0≤wv∧wv≤4294967294)
  {all:List TermM} (hall:all.map kcOf=keysL toks []) (hlk:∀y∈all,LkAt cs s0 p.slots.toNat y)
  {fr m0 m1 m2 m3 m4 m5:Int} (hnd:needsP p all 0 zero6=(fr,⟨m0,m1,m2,m3,m4,m5⟩)) (hfr:¬cf.terms-wt<fr) (hui:UIn p ⟨u0,u1,u2,u3,u4,u5⟩) (hfi:fitsP p ⟨u0,u1,u2,u3,u4,u5⟩ ⟨m0,m1,m2,m3,m4,m5⟩=true) (cz:List Int) (uz:V6) (hwd:WordsTo p s0 p.slots.toNat (live.docs:Int) toks cs ⟨u0,u1,u2,u3,u4,u5⟩ cz uz) (qa:Nat) (hqa:live.addr+1+4*(live.docs:Int)=(qa:Int)) (hq2:qa+2<cs.length):
  Calls Tryz.prog 38 #[.agg #[.slice A cs.length cp,.slice A2 segs.length cp2,I wt,J wv,I u0,I u1,I u2,I u3,I u4,I u5],.agg cf.list.toArray,p.val,.agg #[J id,.slice FA fs.length fc]] w fun e w'=>
   (∃NL A3 cp3,e= .returned (.tuple #[I 0,.agg #[.slice (some ⟨NL,0,none⟩) cs.length cs.length,.slice A3 segs.length cp3,I (wt+fr),J (wv+1),I uz.a0,I uz.a1,I uz.a2,I uz.a3,I uz.a4,I uz.a5]])∧w.heap.size≤NL∧Blk w' NL (((layL cz qa id (toks.length:Int) (wv+1)).set 1 (wv+1)).map (Value.int .u32))∧SlAt w' (fun b=>w.heap.size≤b∧b<w'.heap.size) 3 (.slice A3 segs.length cp3) segs.length ((moreDocs segs).flatMap SegM.cells)∧Keeps (· <w.heap.size) w w'):=by
 have zz83:=@c486;exact c484
section
variable {C:ConfM}{P:Pools}{cs:List Int}{W:WrM}{live:SegM}{s:Nat}{t:Tab}{q:Nat→Nat}{hi:Nat}
theorem Good.segOk (G:Good C P cs W live s t q hi):∀x∈W.segs,(-1099511627700≤x.addr∧x.addr≤1099511627700)∧x.docs≤65536:=fun x hx=>by
 have h1:=G.inb x hx;have h2:=(G.segs x hx).2.2.1;have h3:=G.clen;have h4:=G.all;have h5:x.base=x.addr+2∨x.base=x.addr+1:=by unfold SegM.base;split<;>simp
 omega
theorem Good.look (G:Good C P cs W live s t q hi){toks:List TokI}(hs:∀x∈toks,x.2.1.size≤16)(hn:toks.length≤64):∀y∈termsP cs t C.plan.slots.toNat toks [],LkAt cs s C.plan.slots.toNat y:=by
 obtain⟨T,hcnt,_⟩:=terms_at (cs:=cs) (t:=t) (n:=C.plan.slots.toNat) hs;intro y hy;obtain⟨e1,e2⟩:=T.look y hy;have hf:=findL_of G.dic.rep G.dic.n0 (homeD C.plan.slots.toNat (bsL y.key)) y.key C.plan.slots.toNat 0;have hcl:∀(k:ByteArray) (l:List TokI),cntK k l≤l.length:=fun k l=>by
  induction l with
  |nil=>exact Nat.le_refl _
  |cons x r ih=>
   show(if keyB x.1 x.2.1=k then 1 else 0)+cntK k r≤r.length+1
   split<;>omega
 have h1:=hcl y.key toks;have h2:=hcnt y hy;have h3:=T.size y hy;have hdl:=G.dic.len;unfold LkAt;rw[hf]
 by_cases h0:(probe t C.plan.slots.toNat (homeD C.plan.slots.toNat (bsL y.key)) (bsL y.key) C.plan.slots.toNat 0).1=0
 ·have hr:y.recd=0:=by rw[e1];unfold lookP;rw[if_pos h0]
  have ht:y.tl=0:=by rw[e2];unfold lookP;rw[if_pos h0]
  exact⟨by rw[hr];exact h0.symm,⟨by omega,by omega,by omega⟩,fun h=>absurd hr h,fun _=>ht⟩
 ·obtain⟨j,a,hj,hta,hx,_⟩:=probe_sound (x:=(probe t C.plan.slots.toNat (homeD C.plan.slots.toNat (bsL y.key)) (bsL y.key) C.plan.slots.toNat 0).1) (y:=(probe t C.plan.slots.toNat (homeD C.plan.slots.toNat (bsL y.key)) (bsL y.key) C.plan.slots.toNat 0).2) rfl h0 G.dic.n0;obtain⟨tl,v,g1,g2⟩:=G.dic.tails _ _ _ hj hta;have hr:y.recd=(a:Int):=by rw[e1];unfold lookP;rw[if_neg h0,hx]
  have ht:y.tl=(tl:Int):=by rw[e2];unfold lookP;rw[if_neg h0,hx,Int.toNat_natCast];exact(getD_of g1).2
  have hlo:=lo_ge G.dic.ok;have hal:=(G.dic.rep.lies _ _ _ hj hta).1;have htl:=tail_lt G.dic.ok g2;have hr2:=(G.dic.rep.lies _ _ _ hj hta).2.1;have hb:=G.dic.rep.book;have hl:=G.dic.rep.len;exact⟨by rw[hr];exact hx.symm,⟨by omega,by omega,by omega⟩,fun _=>⟨a,tl,hr,by omega,g1,ht,by omega⟩,fun h=>by rw[hr]at h;omega⟩
theorem Good.uin (G:Good C P cs W live s t q hi):UIn C.plan W.used:=⟨G.used 0 (by decide),G.used 1 (by decide),G.used 2 (by decide),G.used 3 (by decide),G.used 4 (by decide),G.used 5 (by decide)⟩
def RefOut (w w':World)(K:Nat→Prop)(e:Ending)(er:Int)(cs':List Int)(W':WrM):Prop:=
 ∃cv sv,e= .returned (.tuple #[.int .i64 er,.agg (cv::W'.vals sv).toArray])∧SlAt w' (fun b=>K b∨(w.heap.size≤b∧b<w'.heap.size)) 1 cv cs'.length (cs'.map (Value.int .u32))∧SlAt w' (fun b=>K b∨(w.heap.size≤b∧b<w'.heap.size)) 3 sv W'.segs.length (W'.segs.flatMap SegM.cells)∧Keeps (· <w.heap.size) w w'
theorem RefOut.same {w w':World}{K:Nat→Prop}{e:Ending}{er:Int}{cv sv:Value}(he:e= .returned (.tuple #[I er,.agg (cv::W.vals sv).toArray])∧Keeps (· <w.heap.size) w w')(hb:∀b,K b→b<w.heap.size)
  (h1:SlAt w K 1 cv cs.length (cs.map (Value.int .u32))) (h2:SlAt w K 3 sv W.segs.length (W.segs.flatMap SegM.cells)):RefOut w w' K e er cs W:=
 ⟨cv,sv,he.1,(h1.keep he.2 hb).mono fun b h=>Or.inl h,(h2.keep he.2 hb).mono fun b h=>Or.inl h,he.2⟩
set_option maxHeartbeats 1000000 in
theorem ref_add (G:Good C P cs W live s t q hi)(id:Int)(fs:List ByteArray)(FA:Option Addr)(fc:Nat)(A:Option Addr)(cp:Nat)(A2:Option Addr)(cp2:Nat)(w:World)(K:Nat→Prop)(hb:∀b,K b→b<w.heap.size)
  (hsl:SlAt w K 1 (.slice A cs.length cp) cs.length (cs.map (Value.int .u32))) (hs2:SlAt w K 3 (.slice A2 W.segs.length cp2) W.segs.length (W.segs.flatMap SegM.cells)) (hfl:SlAt w K 1 (.slice FA fs.length fc) fs.length (fs.map Value.string)) (hfn:fs.length≤1000000)
  (hv:W.ver+1≤4294967294) {toks:List TokI} (htk:toksM fs=some toks) {W':WrM} {er:Int} {cs':List Int} (hway:AddWay C cs W live s id toks (termsP cs t C.plan.slots.toNat toks []) W' er cs'):
  Calls Tryz.prog 38 #[.agg (Value.slice A cs.length cp::W.vals (.slice A2 W.segs.length cp2)).toArray,.agg C.list.toArray,C.plan.val,.agg #[J id,.slice FA fs.length fc]] w fun e w'=>RefOut w w' K e er cs' W':=by
 have hsm:=toksM_small htk;have hlk:=G.look (fun x hx=>(hsm.1 x hx).2) hsm.2;have hall:=termsP_keys cs t C.plan.slots.toNat toks [];have hall:(termsP cs t C.plan.slots.toNat toks []).map kcOf=keysL toks []:=hall;generalize termsP cs t C.plan.slots.toNat toks []=all at*;have hok:=G.segOk;have hn0:0<cs.length:=by have:=G.dic.rep.len;have:=G.dic.n0;omega
 have hcn:=G.dic.len;have hlive:=G.last;have hns:W.segs.length≤65536:=by have:=G.nseg;omega
 have hpf:=plan_facts G.ok (by have:=G.all;omega)
 have hui:=G.uin;have hwt:0≤W.terms∧W.terms≤65536:=by have h1:=G.terms;have h2:=G.few;have h3:=G.ok.t1;omega
 have hver:=G.ver;have hs1:s≤65536:=by have:=G.dic.rep.len;omega
 have hu:=G.dic.u32;have hP:=G.dic.ok;have hl:=G.dic.lays;have hrow:=G.row;have hbase:=G.base;have hraw:=G.raw;have hcf:=G.ok;have zz44:=@c294;exact c293
theorem ref_addx (G:Good C P cs W live s t q hi)(id:Int)(fs:List ByteArray)(FA:Option Addr)(fc:Nat)(A:Option Addr)(cp:Nat)(A2:Option Addr)(cp2:Nat)(w:World)(K:Nat→Prop)(hb:∀b,K b→b<w.heap.size)
  (hsl:SlAt w K 1 (.slice A cs.length cp) cs.length (cs.map (Value.int .u32))) (hs2:SlAt w K 3 (.slice A2 W.segs.length cp2) W.segs.length (W.segs.flatMap SegM.cells)) (hfl:SlAt w K 1 (.slice FA fs.length fc) fs.length (fs.map Value.string)) (hfn:fs.length≤1000000)
  (hv:W.ver+1≤4294967294) {W':WrM} {er:Int} {cs':List Int} (hway:match toksM fs with|none=>er=4∧W'=W∧cs'=cs|some toks=>AddWay C cs W live s id toks (termsP cs t C.plan.slots.toNat toks []) W' er cs'):
  Calls Tryz.prog 38 #[.agg (Value.slice A cs.length cp::W.vals (.slice A2 W.segs.length cp2)).toArray,.agg C.list.toArray,C.plan.val,.agg #[J id,.slice FA fs.length fc]] w fun e w'=>RefOut w w' K e er cs' W':=by
 cases htk:toksM fs with
 |some toks=>
  rw[htk]at hway;exact ref_add G id fs FA fc A cp A2 cp2 w K hb hsl hs2 hfl hfn hv htk hway
 |none=>
  rw[htk]at hway;obtain⟨rfl,rfl,rfl⟩:=hway;have hok:=G.segOk;have hn0:0<cs'.length:=by have:=G.dic.rep.len;have:=G.dic.n0;omega
  have hcn:=G.dic.len;have hlive:=G.last;have hns:W'.segs.length≤65536:=by have:=G.nseg;omega
  have hcf:=G.ok;obtain⟨segs,wt,wv,u0,u1,u2,u3,u4,u5⟩:=W';exact(radd_long cs' segs wt wv u0 u1 u2 u3 u4 u5 C C.plan live id fs FA fc A cp A2 cp2 w K hb hsl hn0 hcn hs2 hlive hns hok hfl hfn hcf htk).mono fun _ _ h=>RefOut.same (W:=⟨segs,wt,wv,⟨u0,u1,u2,u3,u4,u5⟩⟩) h hb hsl hs2
set_option maxHeartbeats 1000000 in
theorem ref_del (G:Good C P cs W live s t q hi)(id:Int)(A:Option Addr)(cp:Nat)(A2:Option Addr)(cp2:Nat)(w:World)(K:Nat→Prop)(hb:∀b,K b→b<w.heap.size)
  (hsl:SlAt w K 1 (.slice A cs.length cp) cs.length (cs.map (Value.int .u32))) (hs2:SlAt w K 3 (.slice A2 W.segs.length cp2) W.segs.length (W.segs.flatMap SegM.cells)) (hv:W.ver+1≤4294967294) {W':WrM} {er:Int} {cs':List Int} (hr:rdelL ⟨cs,W⟩ id=(er,⟨cs',W'⟩)):
  Calls Tryz.prog 37 #[.agg (Value.slice A cs.length cp::W.vals (.slice A2 W.segs.length cp2)).toArray,J id] w fun e w'=>RefOut w w' K e er cs' W':=by
 have hn0:0<cs.length:=by have:=G.dic.rep.len;have:=G.dic.n0;omega
 have hcn:=G.dic.len;have hns:W.segs.length≤65536:=by have:=G.nseg;omega
 have hl0:0<W.segs.length:=by obtain⟨k,hk,_⟩:=last_ix G.last;omega
 have hok:=G.segOk;have hu:=G.dic.u32;have hver:=G.ver;have hfound:=fun h=>G.found (id:=id) h;have zz44:=@c295;exact c293
end
structure OpM where
 del:Bool
 id:Int
 fs:List ByteArray
def opT (C:ConfM)(W:WrM)(live:SegM)(o:OpM):Tree (WrM×Int):=
 if o.del=true then delT W o.id else match toksM o.fs with
  |none=> .ret (W,4)
  |some toks=>addT C W live o.id toks
def xCells (C:ConfM)(m:Nat)(W:WrM)(v1 cv v2:Value):List Value:=C.list++(C.plan.flat++(.pointer (some ⟨m,0,none⟩)::(W.vals v1++(cv::W.vals v2))))
set_option maxHeartbeats 2000000 in
theorem law_program (X WB EB m:Nat)(C:ConfM)(W:WrM)(SA TA CA:Option Addr)(sn sc tn tc cn cc:Nat)(del:Bool)(id:Int)(FA:Option Addr)(fn fc:Nat)(w:World)(hX:Blk w X (xCells C m W (.slice SA sn sc)(.slice CA cn cc)(.slice TA tn tc))):
  Calls Tryz.prog 14 #[.pointer (some ⟨X,0,none⟩),.agg #[.bool del,J id,.slice FA fn fc],.pointer (some ⟨WB,0,none⟩),.pointer (some ⟨EB,0,none⟩)] w fun e w'=>
   e= .returned (.func (.func 34) #[] #[.pointer (some ⟨w.heap.size+1,0,none⟩),.pointer (some ⟨w.heap.size,0,none⟩),.pointer (some ⟨w.heap.size+1+1+1+1,0,none⟩),.pointer (some ⟨w.heap.size+1+1,0,none⟩),.pointer (some ⟨w.heap.size+1+1+1,0,none⟩)])∧
   Blk w' w.heap.size [.pointer (some ⟨X,0,none⟩)]∧Blk w' (w.heap.size+1) [.bool del,J id,.slice FA fn fc]∧Blk w' (w.heap.size+1+1) [.pointer (some ⟨WB,0,none⟩)]∧Blk w' (w.heap.size+1+1+1) [.pointer (some ⟨EB,0,none⟩)]∧
   Blk w' (w.heap.size+1+1+1+1) (W.vals (.slice SA sn sc))∧Keeps (· <w.heap.size) w w':=by
 obtain⟨segs,wt,wv,u0,u1,u2,u3,u4,u5⟩:=W;obtain⟨docs,terms,q0,q1,q2,q3,book,room,kk,bb⟩:=C;unfold xCells WrM.vals ConfM.list PlanM.flat at hX;unfold WrM.vals;dsimp only at hX ⊢;simp only[List.cons_append,List.nil_append]at hX;have x0:=hX.cell 26;have x1:=hX.cell 27;have x2:=hX.cell 28;have x3:=hX.cell 29;have x4:=hX.cell 30;have x5:=hX.cell 31;have x6:=hX.cell 32
 have x7:=hX.cell 33;have x8:=hX.cell 34;simp only[List.getElem?_cons_zero,List.getElem?_cons_succ]at x0 x1 x2 x3 x4 x5 x6 x7 x8;have hXl:=hX.lt;have HX:=hid hX;clear hX;refine calls_hide fun R' hR'=>?_
 go_enter Tryz.func14,Tryz.ntmps14
 go_upto_region 1 with fail
 refine wp_gen (fun W=>Blk W w.heap.size [.pointer (some ⟨X,0,none⟩)]∧Blk W (w.heap.size+1) [.bool del,J id,.slice FA fn fc]∧Blk W (w.heap.size+1+1) [.pointer (some ⟨WB,0,none⟩)]∧Blk W (w.heap.size+1+1+1) [.pointer (some ⟨EB,0,none⟩)]∧Keeps (· <w.heap.size) w W∧W.heap.size=w.heap.size+1+1+1+1) ⟨?_,?_,?_,?_,?_,?_⟩ (fun W1 HW=>?_)
 ·exact bA
 ·exact bA
 ·exact bA
 ·exact bA
 ·exact kA
 ·simp
 obtain⟨hA,hB,hC,hD,hk,hz⟩:=HW;have x0:=(World.cell?_of_block (a:=⟨X,26,none⟩) (hk.block X hXl)).trans x0;have x1:=(World.cell?_of_block (a:=⟨X,27,none⟩) (hk.block X hXl)).trans x1;have x2:=(World.cell?_of_block (a:=⟨X,28,none⟩) (hk.block X hXl)).trans x2;have x3:=(World.cell?_of_block (a:=⟨X,29,none⟩) (hk.block X hXl)).trans x3;have x4:=(World.cell?_of_block (a:=⟨X,30,none⟩) (hk.block X hXl)).trans x4
 have x5:=(World.cell?_of_block (a:=⟨X,31,none⟩) (hk.block X hXl)).trans x5;have x6:=(World.cell?_of_block (a:=⟨X,32,none⟩) (hk.block X hXl)).trans x6;have x7:=(World.cell?_of_block (a:=⟨X,33,none⟩) (hk.block X hXl)).trans x7;have x8:=(World.cell?_of_block (a:=⟨X,34,none⟩) (hk.block X hXl)).trans x8;have a0:=hA.cell 0;simp only[List.getElem?_cons_zero]at a0;generalize hBB:w.heap.size=B at*
 have hka:Keeps (· <W1.heap.size) W1 (W1.alloc (.cells #[.slice SA sn sc,I wt,J wv,I u0,I u1,I u2,I u3,I u4,I u5] 46)):=(Keeps.refl _ _).alloc (fun b hb=>hb) _;have hE:=Blk.new' W1 [.slice SA sn sc,I wt,J wv,I u0,I u1,I u2,I u3,I u4,I u5] 46 (b:=B+1+1+1+1) hz.symm;have hA2:=hA.keep hka (by omega)
 have hB2:=hB.keep hka (by omega)
 have hC2:=hC.keep hka (by omega)
 have hD2:=hD.keep hka (by omega)
 have hk2:=hk.trans (hka.mono fun b hb=>by omega)
 clear hA hB hC hD hk hka;have HA2:=hid hA2;have HB2:=hid hB2;have HC2:=hid hC2;have HD2:=hid hD2;have Hk2:=hid hk2;have HE:=hid hE;have Hz:=hid hz;clear hA2 hB2 hC2 hD2 hk2 hE hz
 go_wp2_with fail
 rw[Hz.out];exact hR'.out _ _ ⟨rfl,HA2.out,HB2.out,HC2.out,HD2.out,HE.out,Hk2.out⟩
set_option maxRecDepth 100000 in
set_option maxHeartbeats 4000000 in
theorem law_want {P:Pools}{cs:List Int}{live:SegM}{s:Nat}{t:Tab}{q:Nat→Nat}{hi:Nat}(X m:Nat)(C:ConfM)(W:WrM)(G:Good C P cs W live s t q hi)(SA TA CA:Option Addr)(sn sc tc cc:Nat)(del:Bool)(id:Int)(fs:List ByteArray)(FA:Option Addr)(fc:Nat)(w:World)(K:Nat→Prop)(hb:∀b,K b→b<w.heap.size)
  (hX:Blk w X (xCells C m W (.slice SA sn sc) (.slice CA cs.length cc) (.slice TA W.segs.length tc))) (hsl:SlAt w K 1 (.slice CA cs.length cc) cs.length (cs.map (Value.int .u32))) (hs2:SlAt w K 3 (.slice TA W.segs.length tc) W.segs.length (W.segs.flatMap SegM.cells))
  (hfl:SlAt w K 1 (.slice FA fs.length fc) fs.length (fs.map Value.string)) (hfn:fs.length≤1000000) (hv:W.ver+1≤4294967294) {W':WrM} {er:Int} {cs':List Int}
  (hway:if del=true then rdelL ⟨cs,W⟩ id=(er,⟨cs',W'⟩)else match toksM fs with|none=>er=4∧W'=W∧cs'=cs|some toks=>AddWay C cs W live s id toks (termsP cs t C.plan.slots.toNat toks []) W' er cs'):
  Calls Tryz.prog 15 #[.pointer (some ⟨X,0,none⟩),.agg #[.bool del,J id,.slice FA fs.length fc]] w fun e w'=>RefOut w w' K e er cs' W':=by
 obtain⟨segs',t',v',x0,x1,x2,x3,x4,x5⟩:=W';have hadd:=fun(W1:World) (hk:Keeps (· <w.heap.size) w W1) hw=>ref_addx G id fs FA fc CA cc TA tc W1 K (fun b h=>Nat.lt_of_lt_of_le (hb b h) hk.size) (hsl.keep hk hb) (hs2.keep hk hb) (hfl.keep hk hb) hfn hv (W':=⟨segs',t',v',⟨x0,x1,x2,x3,x4,x5⟩⟩) (er:=er) (cs':=cs') hw;have hdel:=fun(W1:World) (hk:Keeps (· <w.heap.size) w W1) hw=>ref_del G id CA cc TA tc W1 K (fun b h=>Nat.lt_of_lt_of_le (hb b h) hk.size) (hsl.keep hk hb) (hs2.keep hk hb) hv (W':=⟨segs',t',v',⟨x0,x1,x2,x3,x4,x5⟩⟩) (er:=er) (cs':=cs') hw
 have hXl:=hX.lt;generalize hsn:fs.length=fn at*;generalize cs.length=cn at*;obtain⟨segs,wt,wv,u0,u1,u2,u3,u4,u5⟩:=W;dsimp only at hX hadd hdel;generalize segs.length=tn at*;obtain⟨docs,terms,q0,q1,q2,q3,book,room,kk,bb⟩:=C;unfold xCells WrM.vals ConfM.list PlanM.flat at hX;unfold WrM.vals ConfM.list PlanM.val at hadd;unfold WrM.vals at hdel;dsimp only at hX hadd hdel
 generalize hpp:ConfM.plan ⟨docs,terms,q0,q1,q2,q3,book,room,kk,bb⟩=p at*;simp only[List.cons_append,List.nil_append]at hX;have HX:=hid hX;have Hadd:=hid hadd;have Hdel:=hid hdel;have Hway:=hid hway;have Hb:=hid hb;clear hX hadd hdel hway hsl hs2 hfl G hpp hb;refine calls_hide fun R' hR'=>?_
 go_enter Tryz.func15,Tryz.ntmps15
 go_upto_region 1 with fail
 refine wp_gen (fun W=>Blk W w.heap.size [.bool del,J id,.slice FA fn fc]∧Blk W (w.heap.size+1) st0∧Keeps (· <w.heap.size) w W) ⟨?_,?_,?_⟩ (fun W1 HW=>?_)
 ·exact bA
 ·unfold st0;exact bA
 ·exact kA
 obtain⟨hO,hZ,hk⟩:=HW;generalize hBB:w.heap.size=B at*;have hX1:=HX.out.keep hk hXl;have a0:=hO.cell 0;simp only[List.getElem?_cons_zero]at a0
 cases del with
 |true=>
  have HREF:=hid (fun wa (h1:Keeps (· <W1.heap.size) W1 wa)=>Hdel.out wa (hk.trans (h1.mono fun b hb=>by have:=hO.lt;omega)) (by simpa using Hway.out))
  have zz50:=@c315;exact c314
 |false=>
  have HREF:=hid (fun wa (h1:Keeps (· <W1.heap.size) W1 wa)=>Hadd.out wa (hk.trans (h1.mono fun b hb=>by have:=hO.lt;omega)) (by have h9:=Hway.out;rwa [if_neg (by decide)]at h9))
  have zz50:=@c316;exact c314
end Go.Proofs.YtogdknnkhkjmcaaGreatDoor
