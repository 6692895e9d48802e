/- Lemmas on the programs that the statement reaches. -/
import Derived.Test.YtogdknnkhkjmcaaGreatDoorKRcS4
import Derived.Test.YtogdknnkhkjmcaaGreatDoorKRcS5
import Derived.Test.YtogdknnkhkjmcaaGreatDoorKRcS6
namespace Go.Proofs.YtogdknnkhkjmcaaGreatDoor
open Go.RowKit
set_option linter.all false
section
variable {C:ConfM}{P:Pools}{cs:List Int}{W:WrM}{live:SegM}{s:Nat}{t:Tab}{q:Nat→Nat}{hi:Nat}
theorem Good.segOk (G:Good C P cs W live s t q hi):∀x∈W.segs,(-1099511627700≤x.addr∧x.addr≤1099511627700)∧x.docs≤65536:=fun x hx=>by
 have h1:=G.inb x hx;have h2:=(G.segs x hx).2.2.1;have h3:=G.clen;have h4:=G.all;have h5:x.base=x.addr+2∨x.base=x.addr+1:=by unfold SegM.base;split<;>simp
 omega
theorem Good.look (G:Good C P cs W live s t q hi){toks:List TokI}(hs:∀x∈toks,x.2.1.size≤16)(hn:toks.length≤64):∀y∈termsP cs t C.plan.slots.toNat toks [],LkAt cs s C.plan.slots.toNat y:=by
 obtain⟨T,hcnt,_⟩:=terms_at (cs:=cs) (t:=t) (n:=C.plan.slots.toNat) hs;intro y hy;obtain⟨e1,e2⟩:=T.look y hy;have hf:=findL_of G.dic.rep G.dic.n0 (homeD C.plan.slots.toNat (bsL y.key)) y.key C.plan.slots.toNat 0;have hcl:∀(k:ByteArray) (l:List TokI),cntK k l≤l.length:=fun k l=>by
  induction l with
  |nil=>exact Nat.le_refl _
  |cons x r ih=>
   show(if keyB x.1 x.2.1=k then 1 else 0)+cntK k r≤r.length+1
   split<;>omega
 have h1:=hcl y.key toks;have h2:=hcnt y hy;have h3:=T.size y hy;have hdl:=G.dic.len;unfold LkAt;rw[hf]
 by_cases h0:(probe t C.plan.slots.toNat (homeD C.plan.slots.toNat (bsL y.key)) (bsL y.key) C.plan.slots.toNat 0).1=0
 ·have hr:y.recd=0:=by rw[e1];unfold lookP;rw[if_pos h0]
  have ht:y.tl=0:=by rw[e2];unfold lookP;rw[if_pos h0]
  exact⟨by rw[hr];exact h0.symm,⟨by omega,by omega,by omega⟩,fun h=>absurd hr h,fun _=>ht⟩
 ·obtain⟨j,a,hj,hta,hx,_⟩:=probe_sound (x:=(probe t C.plan.slots.toNat (homeD C.plan.slots.toNat (bsL y.key)) (bsL y.key) C.plan.slots.toNat 0).1) (y:=(probe t C.plan.slots.toNat (homeD C.plan.slots.toNat (bsL y.key)) (bsL y.key) C.plan.slots.toNat 0).2) rfl h0 G.dic.n0;obtain⟨tl,v,g1,g2⟩:=G.dic.tails _ _ _ hj hta;have hr:y.recd=(a:Int):=by rw[e1];unfold lookP;rw[if_neg h0,hx]
  have ht:y.tl=(tl:Int):=by rw[e2];unfold lookP;rw[if_neg h0,hx,Int.toNat_natCast];exact(getD_of g1).2
  have hlo:=lo_ge G.dic.ok;have hal:=(G.dic.rep.lies _ _ _ hj hta).1;have htl:=tail_lt G.dic.ok g2;have hr2:=(G.dic.rep.lies _ _ _ hj hta).2.1;have hb:=G.dic.rep.book;have hl:=G.dic.rep.len;exact⟨by rw[hr];exact hx.symm,⟨by omega,by omega,by omega⟩,fun _=>⟨a,tl,hr,by omega,g1,ht,by omega⟩,fun h=>by rw[hr]at h;omega⟩
theorem Good.uin (G:Good C P cs W live s t q hi):UIn C.plan W.used:=⟨G.used 0 (by decide),G.used 1 (by decide),G.used 2 (by decide),G.used 3 (by decide),G.used 4 (by decide),G.used 5 (by decide)⟩
def RefOut (w w':World)(K:Nat→Prop)(e:Ending)(er:Int)(cs':List Int)(W':WrM):Prop:=
 ∃cv sv,e= .returned (.tuple #[.int .i64 er,.agg (cv::W'.vals sv).toArray])∧SlAt w' (fun b=>K b∨(w.heap.size≤b∧b<w'.heap.size)) 1 cv cs'.length (cs'.map (Value.int .u32))∧SlAt w' (fun b=>K b∨(w.heap.size≤b∧b<w'.heap.size)) 3 sv W'.segs.length (W'.segs.flatMap SegM.cells)∧Keeps (· <w.heap.size) w w'
theorem RefOut.same {w w':World}{K:Nat→Prop}{e:Ending}{er:Int}{cv sv:Value}(he:e= .returned (.tuple #[I er,.agg (cv::W.vals sv).toArray])∧Keeps (· <w.heap.size) w w')(hb:∀b,K b→b<w.heap.size)
  (h1:SlAt w K 1 cv cs.length (cs.map (Value.int .u32))) (h2:SlAt w K 3 sv W.segs.length (W.segs.flatMap SegM.cells)):RefOut w w' K e er cs W:=
 ⟨cv,sv,he.1,(h1.keep he.2 hb).mono fun b h=>Or.inl h,(h2.keep he.2 hb).mono fun b h=>Or.inl h,he.2⟩
set_option maxHeartbeats 1000000 in
theorem ref_add (G:Good C P cs W live s t q hi)(id:Int)(fs:List ByteArray)(FA:Option Addr)(fc:Nat)(A:Option Addr)(cp:Nat)(A2:Option Addr)(cp2:Nat)(w:World)(K:Nat→Prop)(hb:∀b,K b→b<w.heap.size)
  (hsl:SlAt w K 1 (.slice A cs.length cp) cs.length (cs.map (Value.int .u32))) (hs2:SlAt w K 3 (.slice A2 W.segs.length cp2) W.segs.length (W.segs.flatMap SegM.cells)) (hfl:SlAt w K 1 (.slice FA fs.length fc) fs.length (fs.map Value.string)) (hfn:fs.length≤1000000)
  (hv:W.ver+1≤4294967294) {toks:List TokI} (htk:toksM fs=some toks) {W':WrM} {er:Int} {cs':List Int} (hway:AddWay C cs W live s id toks (termsP cs t C.plan.slots.toNat toks []) W' er cs'):
  Z 38 #[.agg (Value.slice A cs.length cp::W.vals (.slice A2 W.segs.length cp2)).toArray,.agg C.list.toArray,C.plan.val,.agg #[J id,.slice FA fs.length fc]] w fun e w'=>RefOut w w' K e er cs' W':=by
 have hsm:=toksM_small htk;have hlk:=G.look (fun x hx=>(hsm.1 x hx).2) hsm.2;have hall:=termsP_keys cs t C.plan.slots.toNat toks [];have hall:(termsP cs t C.plan.slots.toNat toks []).map kcOf=keysL toks []:=hall;generalize termsP cs t C.plan.slots.toNat toks []=all at*;have hok:=G.segOk;have hn0:0<cs.length:=by have:=G.dic.rep.len;have:=G.dic.n0;omega
 have hcn:=G.dic.len;have hlive:=G.last;have hns:W.segs.length≤65536:=by have:=G.nseg;omega
 have hpf:=plan_facts G.ok (by have:=G.all;omega)
 have hui:=G.uin;have hwt:0≤W.terms∧W.terms≤65536:=by have h1:=G.terms;have h2:=G.few;have h3:=G.ok.t1;omega
 have hver:=G.ver;have hs1:s≤65536:=by have:=G.dic.rep.len;omega
 have hu:=G.dic.u32;have hP:=G.dic.ok;have hl:=G.dic.lays;have hrow:=G.row;have hbase:=G.base;have hraw:=G.raw;have hcf:=G.ok;have zz40:=PLift.up @c273;exact c272
theorem ref_addx (G:Good C P cs W live s t q hi)(id:Int)(fs:List ByteArray)(FA:Option Addr)(fc:Nat)(A:Option Addr)(cp:Nat)(A2:Option Addr)(cp2:Nat)(w:World)(K:Nat→Prop)(hb:∀b,K b→b<w.heap.size)
  (hsl:SlAt w K 1 (.slice A cs.length cp) cs.length (cs.map (Value.int .u32))) (hs2:SlAt w K 3 (.slice A2 W.segs.length cp2) W.segs.length (W.segs.flatMap SegM.cells)) (hfl:SlAt w K 1 (.slice FA fs.length fc) fs.length (fs.map Value.string)) (hfn:fs.length≤1000000)
  (hv:W.ver+1≤4294967294) {W':WrM} {er:Int} {cs':List Int} (hway:match toksM fs with|none=>er=4∧W'=W∧cs'=cs|some toks=>AddWay C cs W live s id toks (termsP cs t C.plan.slots.toNat toks []) W' er cs'):
  Z 38 #[.agg (Value.slice A cs.length cp::W.vals (.slice A2 W.segs.length cp2)).toArray,.agg C.list.toArray,C.plan.val,.agg #[J id,.slice FA fs.length fc]] w fun e w'=>RefOut w w' K e er cs' W':=by
 cases htk:toksM fs with
 |some toks=>
  rw[htk]at hway;exact ref_add G id fs FA fc A cp A2 cp2 w K hb hsl hs2 hfl hfn hv htk hway
 |none=>
  rw[htk]at hway;obtain⟨rfl,rfl,rfl⟩:=hway;have hok:=G.segOk;have hn0:0<cs'.length:=by have:=G.dic.rep.len;have:=G.dic.n0;omega
  have hcn:=G.dic.len;have hlive:=G.last;have hns:W'.segs.length≤65536:=by have:=G.nseg;omega
  have hcf:=G.ok;obtain⟨segs,wt,wv,u0,u1,u2,u3,u4,u5⟩:=W';exact(radd_long cs' segs wt wv u0 u1 u2 u3 u4 u5 C C.plan live id fs FA fc A cp A2 cp2 w K hb hsl hn0 hcn hs2 hlive hns hok hfl hfn hcf htk).mono fun _ _ h=>RefOut.same (W:=⟨segs,wt,wv,⟨u0,u1,u2,u3,u4,u5⟩⟩) h hb hsl hs2
set_option maxHeartbeats 1000000 in
theorem ref_del (G:Good C P cs W live s t q hi)(id:Int)(A:Option Addr)(cp:Nat)(A2:Option Addr)(cp2:Nat)(w:World)(K:Nat→Prop)(hb:∀b,K b→b<w.heap.size)
  (hsl:SlAt w K 1 (.slice A cs.length cp) cs.length (cs.map (Value.int .u32))) (hs2:SlAt w K 3 (.slice A2 W.segs.length cp2) W.segs.length (W.segs.flatMap SegM.cells)) (hv:W.ver+1≤4294967294) {W':WrM} {er:Int} {cs':List Int} (hr:rdelL ⟨cs,W⟩ id=(er,⟨cs',W'⟩)):
  Z 37 #[.agg (Value.slice A cs.length cp::W.vals (.slice A2 W.segs.length cp2)).toArray,J id] w fun e w'=>RefOut w w' K e er cs' W':=by
 have hn0:0<cs.length:=by have:=G.dic.rep.len;have:=G.dic.n0;omega
 have hcn:=G.dic.len;have hns:W.segs.length≤65536:=by have:=G.nseg;omega
 have hl0:0<W.segs.length:=by obtain⟨k,hk,_⟩:=last_ix G.last;omega
 have hok:=G.segOk;have hu:=G.dic.u32;have hver:=G.ver;have hfound:=fun h=>G.found (id:=id) h;have zz40:=PLift.up @c274;exact c272
end
structure OpM where
 del:Bool
 id:Int
 fs:List ByteArray
def opT (C:ConfM)(W:WrM)(live:SegM)(o:OpM):Tree (WrM×Int):=
 if o.del=true then delT W o.id else match toksM o.fs with
  |none=> .ret (W,4)
  |some toks=>addT C W live o.id toks
def xCells (C:ConfM)(m:Nat)(W:WrM)(v1 cv v2:Value):List Value:=C.list++(C.plan.flat++(.pointer (some ⟨m,0,none⟩)::(W.vals v1++(cv::W.vals v2))))
set_option maxHeartbeats 2000000 in
theorem law_program (X WB EB m:Nat)(C:ConfM)(W:WrM)(SA TA CA:Option Addr)(sn sc tn tc cn cc:Nat)(del:Bool)(id:Int)(FA:Option Addr)(fn fc:Nat)(w:World)(hX:Blk w X (xCells C m W (.slice SA sn sc) (.slice CA cn cc) (.slice TA tn tc))):
  Z 14 #[.pointer (some ⟨X,0,none⟩),.agg #[.bool del,J id,.slice FA fn fc],.pointer (some ⟨WB,0,none⟩),.pointer (some ⟨EB,0,none⟩)] w fun e w'=>
   e= .returned (.func (.func 34) #[] #[.pointer (some ⟨w.heap.size+1,0,none⟩),.pointer (some ⟨w.heap.size,0,none⟩),.pointer (some ⟨w.heap.size+1+1+1+1,0,none⟩),.pointer (some ⟨w.heap.size+1+1,0,none⟩),.pointer (some ⟨w.heap.size+1+1+1,0,none⟩)])∧
   Blk w' w.heap.size [.pointer (some ⟨X,0,none⟩)]∧Blk w' (w.heap.size+1) [.bool del,J id,.slice FA fn fc]∧Blk w' (w.heap.size+1+1) [.pointer (some ⟨WB,0,none⟩)]∧Blk w' (w.heap.size+1+1+1) [.pointer (some ⟨EB,0,none⟩)]∧
   Blk w' (w.heap.size+1+1+1+1) (W.vals (.slice SA sn sc))∧Keeps (· <w.heap.size) w w':=by
 obtain⟨segs,wt,wv,u0,u1,u2,u3,u4,u5⟩:=W;obtain⟨docs,terms,q0,q1,q2,q3,book,room,kk,bb⟩:=C;unfold xCells WrM.vals ConfM.list PlanM.flat at hX;unfold WrM.vals;dsimp only at hX ⊢;simp only[List.cons_append,List.nil_append]at hX;have x0:=hX.cell 26;have x1:=hX.cell 27;have x2:=hX.cell 28;have x3:=hX.cell 29;have x4:=hX.cell 30;have x5:=hX.cell 31;have x6:=hX.cell 32
 have x7:=hX.cell 33;have x8:=hX.cell 34;simp only[List.getElem?_cons_zero,List.getElem?_cons_succ]at x0 x1 x2 x3 x4 x5 x6 x7 x8;have hXl:=hX.lt;have HX:=hid hX;clear hX;refine calls_hide fun R' hR'=>?_
 go_enter Tryz.func14,Tryz.ntmps14
 go_upto_region 1 with fail
 refine wp_gen (fun W=>Blk W w.heap.size [.pointer (some ⟨X,0,none⟩)]∧Blk W (w.heap.size+1) [.bool del,J id,.slice FA fn fc]∧Blk W (w.heap.size+1+1) [.pointer (some ⟨WB,0,none⟩)]∧Blk W (w.heap.size+1+1+1) [.pointer (some ⟨EB,0,none⟩)]∧Keeps (· <w.heap.size) w W∧W.heap.size=w.heap.size+1+1+1+1) ⟨?_,?_,?_,?_,?_,?_⟩ (fun W1 HW=>?_)
 ·exact bA
 ·exact bA
 ·exact bA
 ·exact bA
 ·exact kA
 ·simp
 obtain⟨hA,hB,hC,hD,hk,hz⟩:=HW;have x0:=(World.cell?_of_block (a:=⟨X,26,none⟩) (hk.block X hXl)).trans x0;have x1:=(World.cell?_of_block (a:=⟨X,27,none⟩) (hk.block X hXl)).trans x1;have x2:=(World.cell?_of_block (a:=⟨X,28,none⟩) (hk.block X hXl)).trans x2;have x3:=(World.cell?_of_block (a:=⟨X,29,none⟩) (hk.block X hXl)).trans x3;have x4:=(World.cell?_of_block (a:=⟨X,30,none⟩) (hk.block X hXl)).trans x4
 have x5:=(World.cell?_of_block (a:=⟨X,31,none⟩) (hk.block X hXl)).trans x5;have x6:=(World.cell?_of_block (a:=⟨X,32,none⟩) (hk.block X hXl)).trans x6;have x7:=(World.cell?_of_block (a:=⟨X,33,none⟩) (hk.block X hXl)).trans x7;have x8:=(World.cell?_of_block (a:=⟨X,34,none⟩) (hk.block X hXl)).trans x8;have a0:=hA.cell 0;simp only[List.getElem?_cons_zero]at a0;generalize hBB:w.heap.size=B at*
 have hka:Keeps (· <W1.heap.size) W1 (W1.alloc (.cells #[.slice SA sn sc,I wt,J wv,I u0,I u1,I u2,I u3,I u4,I u5] 46)):=(Keeps.refl _ _).alloc (fun b hb=>hb) _;have hE:=Blk.new' W1 [.slice SA sn sc,I wt,J wv,I u0,I u1,I u2,I u3,I u4,I u5] 46 (b:=B+1+1+1+1) hz.symm;have hA2:=hA.keep hka (by omega)
 have hB2:=hB.keep hka (by omega)
 have hC2:=hC.keep hka (by omega)
 have hD2:=hD.keep hka (by omega)
 have hk2:=hk.trans (hka.mono fun b hb=>by omega)
 clear hA hB hC hD hk hka;have HA2:=hid hA2;have HB2:=hid hB2;have HC2:=hid hC2;have HD2:=hid hD2;have Hk2:=hid hk2;have HE:=hid hE;have Hz:=hid hz;clear hA2 hB2 hC2 hD2 hk2 hE hz
 go_wp2_with fail
 rw[Hz.out];exact hR'.out _ _ ⟨rfl,HA2.out,HB2.out,HC2.out,HD2.out,HE.out,Hk2.out⟩
set_option maxRecDepth 100000 in
set_option maxHeartbeats 4000000 in
theorem law_want {P:Pools}{cs:List Int}{live:SegM}{s:Nat}{t:Tab}{q:Nat→Nat}{hi:Nat}(X m:Nat)(C:ConfM)(W:WrM)(G:Good C P cs W live s t q hi)(SA TA CA:Option Addr)(sn sc tc cc:Nat)(del:Bool)(id:Int)(fs:List ByteArray)(FA:Option Addr)(fc:Nat)(w:World)(K:Nat→Prop)(hb:∀b,K b→b<w.heap.size)
  (hX:Blk w X (xCells C m W (.slice SA sn sc) (.slice CA cs.length cc) (.slice TA W.segs.length tc))) (hsl:SlAt w K 1 (.slice CA cs.length cc) cs.length (cs.map (Value.int .u32))) (hs2:SlAt w K 3 (.slice TA W.segs.length tc) W.segs.length (W.segs.flatMap SegM.cells))
  (hfl:SlAt w K 1 (.slice FA fs.length fc) fs.length (fs.map Value.string)) (hfn:fs.length≤1000000) (hv:W.ver+1≤4294967294) {W':WrM} {er:Int} {cs':List Int}
  (hway:if del=true then rdelL ⟨cs,W⟩ id=(er,⟨cs',W'⟩)else match toksM fs with|none=>er=4∧W'=W∧cs'=cs|some toks=>AddWay C cs W live s id toks (termsP cs t C.plan.slots.toNat toks []) W' er cs'):
  Z 15 #[.pointer (some ⟨X,0,none⟩),.agg #[.bool del,J id,.slice FA fs.length fc]] w fun e w'=>RefOut w w' K e er cs' W':=by
 obtain⟨segs',t',v',x0,x1,x2,x3,x4,x5⟩:=W';have hadd:=fun(W1:World) (hk:Keeps (· <w.heap.size) w W1) hw=>ref_addx G id fs FA fc CA cc TA tc W1 K (fun b h=>Nat.lt_of_lt_of_le (hb b h) hk.size) (hsl.keep hk hb) (hs2.keep hk hb) (hfl.keep hk hb) hfn hv (W':=⟨segs',t',v',⟨x0,x1,x2,x3,x4,x5⟩⟩) (er:=er) (cs':=cs') hw;have hdel:=fun(W1:World) (hk:Keeps (· <w.heap.size) w W1) hw=>ref_del G id CA cc TA tc W1 K (fun b h=>Nat.lt_of_lt_of_le (hb b h) hk.size) (hsl.keep hk hb) (hs2.keep hk hb) hv (W':=⟨segs',t',v',⟨x0,x1,x2,x3,x4,x5⟩⟩) (er:=er) (cs':=cs') hw
 have hXl:=hX.lt;generalize hsn:fs.length=fn at*;generalize cs.length=cn at*;obtain⟨segs,wt,wv,u0,u1,u2,u3,u4,u5⟩:=W;dsimp only at hX hadd hdel;generalize segs.length=tn at*;obtain⟨docs,terms,q0,q1,q2,q3,book,room,kk,bb⟩:=C;unfold xCells WrM.vals ConfM.list PlanM.flat at hX;unfold WrM.vals ConfM.list PlanM.val at hadd;unfold WrM.vals at hdel;dsimp only at hX hadd hdel
 generalize hpp:ConfM.plan ⟨docs,terms,q0,q1,q2,q3,book,room,kk,bb⟩=p at*;simp only[List.cons_append,List.nil_append]at hX;have HX:=hid hX;have Hadd:=hid hadd;have Hdel:=hid hdel;have Hway:=hid hway;have Hb:=hid hb;clear hX hadd hdel hway hsl hs2 hfl G hpp hb;refine calls_hide fun R' hR'=>?_
 go_enter Tryz.func15,Tryz.ntmps15
 go_upto_region 1 with fail
 refine wp_gen (fun W=>Blk W w.heap.size [.bool del,J id,.slice FA fn fc]∧Blk W (w.heap.size+1) st0∧Keeps (· <w.heap.size) w W) ⟨?_,?_,?_⟩ (fun W1 HW=>?_)
 ·exact bA
 ·unfold st0;exact bA
 ·exact kA
 obtain⟨hO,hZ,hk⟩:=HW;generalize hBB:w.heap.size=B at*;have hX1:=HX.out.keep hk hXl;have a0:=hO.cell 0;simp only[List.getElem?_cons_zero]at a0
 cases del with
 |true=>
  have HREF:=hid (fun wa (h1:Keeps (· <W1.heap.size) W1 wa)=>Hdel.out wa (hk.trans (h1.mono fun b hb=>by have:=hO.lt;omega)) (by simpa using Hway.out))
  have zz46:=PLift.up @c294;exact c293
 |false=>
  have HREF:=hid (fun wa (h1:Keeps (· <W1.heap.size) W1 wa)=>Hadd.out wa (hk.trans (h1.mono fun b hb=>by have:=hO.lt;omega)) (by have h9:=Hway.out;rwa [if_neg (by decide)]at h9))
  have zz46:=PLift.up @c295;exact c293
theorem opT_add (C:ConfM)(W:WrM)(live:SegM)(id:Int)(fs:List ByteArray)(s:St):(opT C W live ⟨false,id,fs⟩).exec s=addR C W live id fs s:=by
 unfold opT addR;dsimp only;rw[if_neg Bool.false_ne_true]
 cases toksM fs<;>rfl
theorem opT_del (C:ConfM)(W:WrM)(live:SegM)(id:Int)(fs:List ByteArray)(s:St):(opT C W live ⟨true,id,fs⟩).exec s=(delT W id).exec s:=by
 unfold opT;rw[if_pos rfl]
def CloOut (w:World)(n0:Nat)(Ks:Nat→Prop)(r m c WB EB:Nat)(y:WrM×Int):Prop:=
 Blk w EB [.int .i64 y.2]∧∃A cp,Blk w WB (y.1.vals (.slice A y.1.segs.length cp))∧SlAt w (fun b=>Ks b∨(n0≤b∧b<w.heap.size∧b≠r∧b≠m∧b≠c)) 3 (.slice A y.1.segs.length cp) y.1.segs.length (y.1.segs.flatMap SegM.cells)
theorem CloOut.keep {w w':World}{n0:Nat}{Ks:Nat→Prop}{r m c WB EB:Nat}{y:WrM×Int}(h:CloOut w n0 Ks r m c WB EB y){L:Nat→Prop}(k:Keeps L w w')(h1:L WB)(h2:L EB)(hL:∀b,(Ks b∨(n0≤b∧b<w.heap.size∧b≠r∧b≠m∧b≠c))→L b):CloOut w' n0 Ks r m c WB EB y:=by
 obtain⟨g1,A,cp,g2,g3⟩:=h;have:=k.size;exact⟨g1.keep k h2,A,cp,g2.keep k h1,(g3.keep k hL).mono fun b hb=>hb.imp (fun h=>h) fun h=>⟨h.1,by omega,h.2.2⟩⟩
theorem delT_segs (W:WrM)(id:Int)(s:St):((delT W id).exec s).1.1.segs=W.segs:=by
 unfold delT;rw[Tree.exec_bind]
 split
 ·rfl
 ·split
  ·rfl
  ·rw[Tree.exec_bind];show((if _ then _ else _:Tree (WrM×Int)).exec _).1.1.segs=_
   split
   ·rfl
   ·rw[Tree.exec_bind];rfl
structure CloAt (w:World)(X OB XB WS PW PE WB EB m:Nat)(C:ConfM)(W:WrM)(v1 v2 cv:Value)(del:Bool)(id:Int)(fv:Value):Prop where
 x:Blk w X (xCells C m W v1 cv v2)
 xb:Blk w XB [.pointer (some ⟨X,0,none⟩)]
 ob:Blk w OB [.bool del,.int .u32 id,fv]
 pw:Blk w PW [.pointer (some ⟨WB,0,none⟩)]
 pe:Blk w PE [.pointer (some ⟨EB,0,none⟩)]
 ws:Blk w WS (W.vals v1)
 wb:∃l:List Value,l.length=9∧Blk w WB l
 eb:∃e:Int,Blk w EB [.int .i64 e]
theorem CloAt.keep {w w':World}{X OB XB WS PW PE WB EB m:Nat}{C:ConfM}{W:WrM}{v1 v2 cv:Value}{del:Bool}{id:Int}{fv:Value}(h:CloAt w X OB XB WS PW PE WB EB m C W v1 v2 cv del id fv){K:Nat→Prop}(k:Keeps K w w')(hK:∀b,(b=X∨b=OB∨b=XB∨b=WS∨b=PW∨b=PE∨b=WB∨b=EB)→K b):CloAt w' X OB XB WS PW PE WB EB m C W v1 v2 cv del id fv:=by
 obtain⟨l,h1,h2⟩:=h.wb;obtain⟨e,h3⟩:=h.eb;exact⟨h.x.keep k (hK _ (by simp)),h.xb.keep k (hK _ (by simp)),h.ob.keep k (hK _ (by simp)),h.pw.keep k (hK _ (by simp)),h.pe.keep k (hK _ (by simp)),h.ws.keep k (hK _ (by simp)),⟨l,h1,h2.keep k (hK _ (by simp))⟩,⟨e,h3.keep k (hK _ (by simp))⟩⟩
def CloNe (X OB XB WS PW PE WB EB:Nat):Prop:=(X≠WB∧OB≠WB∧XB≠WB∧WS≠WB∧PW≠WB∧PE≠WB)∧(X≠EB∧OB≠EB∧XB≠EB∧WS≠EB∧PW≠EB∧PE≠EB)∧WB≠EB
set_option maxRecDepth 100000 in
set_option maxHeartbeats 4000000 in
theorem law_clo {w:World}{G Ks:Nat→Prop}{r m c:Nat}{s:St}(hR:RM w G r m c s)(X OB XB WS PW PE WB EB:Nat)(C:ConfM)(W:WrM)(live:SegM)(SA TA CA:Option Addr)(sc tn tc cn cc:Nat)(del:Bool)(id:Int)(fs:List ByteArray)(FA:Option Addr)(fc:Nat)
  (hC:CloAt w X OB XB WS PW PE WB EB m C W (.slice SA W.segs.length sc) (.slice TA tn tc) (.slice CA cn cc) del id (.slice FA fs.length fc)) (hN:CloNe X OB XB WS PW PE WB EB) (hG:∀b,(b=0∨b=X∨b=OB∨b=XB∨b=WS∨b=PW∨b=PE∨b=WB∨b=EB)→G b) (hKs:∀b,Ks b→G b∧b≠WB∧b≠EB)
  (hT:PTab w) (hF:FoldTab w) (hcf:C.ok∧C.all≤65536) (hlive:W.segs.getLast?=some live) (hsl:SlAt w Ks 3 (.slice SA W.segs.length sc) W.segs.length (W.segs.flatMap SegM.cells)) (hfl:SlAt w G 1 (.slice FA fs.length fc) fs.length (fs.map Value.string)) (hfn:fs.length≤1000000)
  (hok:∀x∈W.segs,(-1099511627700≤x.addr∧x.addr≤1099511627700)∧x.docs≤65536) (hns:W.segs.length≤65536) (hi:U32 id) (hv:0≤W.ver∧W.ver≤4294967294) (hu:UIn C.plan W.used) (htm:0≤W.terms∧W.terms≤65536) (hlb:0≤live.base∧live.base≤65000):
  Z 34 #[.pointer (some ⟨r,0,none⟩),.pointer (some ⟨OB,0,none⟩),.pointer (some ⟨XB,0,none⟩),.pointer (some ⟨WS,0,none⟩),.pointer (some ⟨PW,0,none⟩),.pointer (some ⟨PE,0,none⟩)] w fun e w2=>
   e= .returned (.tuple #[])∧RM w2 G r m c ((opT C W live ⟨del,id,fs⟩).exec s).2∧Keeps (fun b=>G b∧b≠WB∧b≠EB) w w2∧CloOut w2 w.heap.size Ks r m c WB EB ((opT C W live ⟨del,id,fs⟩).exec s).1:=by
 obtain⟨l9,hl9,hWB⟩:=hC.wb;obtain⟨e0,hEB⟩:=hC.eb;have hres9:∃segs' t' v' x0 x1 x2 x3 x4 x5 er sz,(opT C W live ⟨del,id,fs⟩).exec s=((⟨segs',t',v',⟨x0,x1,x2,x3,x4,x5⟩⟩,er),sz):=⟨_,_,_,_,_,_,_,_,_,_,_,rfl⟩;obtain⟨segs',t',v',x0,x1,x2,x3,x4,x5,er,sz,hres⟩:=hres9;have hsame:del=true→segs'=W.segs:=fun hd=>by
  subst hd;rw[opT_del]at hres;have h9:=delT_segs W id s;rw[hres]at h9;exact h9
 rw[hres];obtain⟨⟨n1,n2,n3,n4,n5,n6⟩,⟨n7,n8,n9,n10,n11,n12⟩,n13⟩:=hN;have k1:=n1.symm;have k2:=n2.symm;have k3:=n3.symm;have k4:=n4.symm;have k5:=n5.symm;have k6:=n6.symm;have k7:=n7.symm;have k8:=n8.symm;have k9:=n9.symm;have k10:=n10.symm;have k11:=n11.symm;have k12:=n12.symm;have k13:=n13.symm
 match l9,hl9 with
 | [l0,l1,l2,l3,l4,l5,l6,l7,l8],_=>
 obtain⟨segs,wt,wv,u0,u1,u2,u3,u4,u5⟩:=W;obtain⟨docs,terms,q0,q1,q2,q3,book,room,kk,bb⟩:=C;have hX:=hC.x;have hWS:=hC.ws;unfold xCells WrM.vals ConfM.list PlanM.flat at hX;unfold WrM.vals at hWS;dsimp only at hX hWS hsame hok hns hsl;simp only[List.cons_append,List.nil_append]at hX;have HC:=hid hC;have HX:=hid hX;have HWS:=hid hWS;have HWB:=hid hWB;have HEB:=hid hEB
 have HR:=hid hR;have HG:=hid hG;have HKS:=hid hKs;have HT:=hid hT;have HF:=hid hF;have Hcf:=hid hcf;have Hlive:=hid hlive;have HSL:=hid hsl;have HFL:=hid hfl;have Hok:=hid hok;have Hui:=hid hu;have Hv:=hid hv;have Htm:=hid htm;have Hlb:=hid hlb;have Hid9:=hid hi;have a0:=hC.ob.cell 0;simp only[List.getElem?_cons_zero]at a0;refine calls_hide fun R' hR'=>?_;clear hC hX hWS hWB hEB hR hG hKs hT hF hcf hlive hsl hfl hok hu hv htm hlb hi
 go_enter Tryz.func34,Tryz.ntmps34
 cases del with
 |true=>
  rw[opT_del]at hres;have hsg:segs=segs':=(hsame rfl).symm;subst hsg;clear hsame;have Hres:=hid hres;clear hres;have c1:=(HC.out.pw).cell 0;have c2:=(HC.out.pe).cell 0;have c3:=(HC.out.xb).cell 0;have b1:=(HC.out.ob).cell 1;have zz37:=PLift.up @c257;exact c256
 |false=>
  rw[opT_add]at hres;clear hsame;have Hres:=hid hres;clear hres;have c1:=(HC.out.pw).cell 0;have c2:=(HC.out.pe).cell 0;have c3:=(HC.out.xb).cell 0;have b1:=(HC.out.ob).cell 1;have b2:=(HC.out.ob).cell 2;have zz37:=PLift.up @c258;exact c256
structure Wd (w0 w:World)(K:Nat→Prop)(X m c:Nat)(C:ConfM)(cs:List Int)(W:WrM)(st:Int):Prop where
 obj:∃SA sc CA cc TA tc,Blk w X (xCells C m W (.slice SA W.segs.length sc) (.slice CA cs.length cc) (.slice TA W.segs.length tc))∧SlAt w K 3 (.slice SA W.segs.length sc) W.segs.length (W.segs.flatMap SegM.cells)∧
  SlAt w K 1 (.slice CA cs.length cc) cs.length (cs.map (Value.int .u32))∧SlAt w K 3 (.slice TA W.segs.length tc) W.segs.length (W.segs.flatMap SegM.cells)
 mem:∃μ,MemAt w m c μ∧μ.cells=cs∧μ.stores=st
 kx:¬K X
 km:¬K m
 kc:¬K c
 lt:∀b,K b→b<w.heap.size
 xm:X≠m
 xc:X≠c
 k0:∀b,b<w0.heap.size→K b
 kp:Keeps (· <w0.heap.size) w0 w
theorem blk_x26 {w:World}{X m:Nat}{C:ConfM}{W:WrM}{v1 cv v2:Value}(h:Blk w X (xCells C m W v1 cv v2))(W':WrM)(y:Value):
  ∃l,Blk (((((((((w.setCell ⟨X,26,none⟩ (y)).setCell ⟨X,27,none⟩ (I W'.terms)).setCell ⟨X,28,none⟩ (J W'.ver)).setCell ⟨X,29,none⟩ (I W'.used.a0)).setCell ⟨X,30,none⟩ (I W'.used.a1)).setCell ⟨X,31,none⟩ (I W'.used.a2)).setCell ⟨X,32,none⟩ (I W'.used.a3)).setCell ⟨X,33,none⟩ (I W'.used.a4)).setCell ⟨X,34,none⟩ (I W'.used.a5)) X l∧l=C.list++(C.plan.flat++(.pointer (some ⟨m,0,none⟩)::(W'.vals y++(cv::W.vals v2)))):=by
 obtain⟨segs,wt,wv,u0,u1,u2,u3,u4,u5⟩:=W;obtain⟨docs,terms,q0,q1,q2,q3,book,room,kk,bb⟩:=C;exact⟨_,(((((((((h.set 26 _).set 27 _).set 28 _).set 29 _).set 30 _).set 31 _).set 32 _).set 33 _).set 34 _),rfl⟩
theorem blk_x35 {w:World}{X m:Nat}{C:ConfM}{W W2:WrM}{v1 cv v2:Value}(h:Blk w X (C.list++(C.plan.flat++(.pointer (some ⟨m,0,none⟩)::(W2.vals v1++(cv::W.vals v2))))))(W':WrM)(cy y:Value):
  ∃l,Blk ((((((((((w.setCell ⟨X,35,none⟩ (cy)).setCell ⟨X,36,none⟩ (y)).setCell ⟨X,37,none⟩ (I W'.terms)).setCell ⟨X,38,none⟩ (J W'.ver)).setCell ⟨X,39,none⟩ (I W'.used.a0)).setCell ⟨X,40,none⟩ (I W'.used.a1)).setCell ⟨X,41,none⟩ (I W'.used.a2)).setCell ⟨X,42,none⟩ (I W'.used.a3)).setCell ⟨X,43,none⟩ (I W'.used.a4)).setCell ⟨X,44,none⟩ (I W'.used.a5)) X l∧l=C.list++(C.plan.flat++(.pointer (some ⟨m,0,none⟩)::(W2.vals v1++(cy::W'.vals y)))):=by
 obtain⟨segs,wt,wv,u0,u1,u2,u3,u4,u5⟩:=W;obtain⟨docs,terms,q0,q1,q2,q3,book,room,kk,bb⟩:=C;exact⟨_,((((((((((h.set 35 _).set 36 _).set 37 _).set 38 _).set 39 _).set 40 _).set 41 _).set 42 _).set 43 _).set 44 _),rfl⟩
theorem keeps_x26 (w:World)(X:Nat)(v0 v1 v2 v3 v4 v5 v6 v7 v8:Value):Keeps (· ≠X) w (((((((((w.setCell ⟨X,26,none⟩ (v0)).setCell ⟨X,27,none⟩ (v1)).setCell ⟨X,28,none⟩ (v2)).setCell ⟨X,29,none⟩ (v3)).setCell ⟨X,30,none⟩ (v4)).setCell ⟨X,31,none⟩ (v5)).setCell ⟨X,32,none⟩ (v6)).setCell ⟨X,33,none⟩ (v7)).setCell ⟨X,34,none⟩ (v8)):=
 ((((((((((Keeps.refl _ _).setCell (p:=⟨X,26,none⟩) (fun h=>h rfl) v0).setCell (p:=⟨X,27,none⟩) (fun h=>h rfl) v1).setCell (p:=⟨X,28,none⟩) (fun h=>h rfl) v2).setCell (p:=⟨X,29,none⟩) (fun h=>h rfl) v3).setCell (p:=⟨X,30,none⟩) (fun h=>h rfl) v4).setCell (p:=⟨X,31,none⟩) (fun h=>h rfl) v5).setCell (p:=⟨X,32,none⟩) (fun h=>h rfl) v6).setCell (p:=⟨X,33,none⟩) (fun h=>h rfl) v7).setCell (p:=⟨X,34,none⟩) (fun h=>h rfl) v8)
theorem keeps_x35 (w:World)(X:Nat)(v0 v1 v2 v3 v4 v5 v6 v7 v8 v9:Value):Keeps (· ≠X) w ((((((((((w.setCell ⟨X,35,none⟩ (v0)).setCell ⟨X,36,none⟩ (v1)).setCell ⟨X,37,none⟩ (v2)).setCell ⟨X,38,none⟩ (v3)).setCell ⟨X,39,none⟩ (v4)).setCell ⟨X,40,none⟩ (v5)).setCell ⟨X,41,none⟩ (v6)).setCell ⟨X,42,none⟩ (v7)).setCell ⟨X,43,none⟩ (v8)).setCell ⟨X,44,none⟩ (v9)):=
 (((((((((((Keeps.refl _ _).setCell (p:=⟨X,35,none⟩) (fun h=>h rfl) v0).setCell (p:=⟨X,36,none⟩) (fun h=>h rfl) v1).setCell (p:=⟨X,37,none⟩) (fun h=>h rfl) v2).setCell (p:=⟨X,38,none⟩) (fun h=>h rfl) v3).setCell (p:=⟨X,39,none⟩) (fun h=>h rfl) v4).setCell (p:=⟨X,40,none⟩) (fun h=>h rfl) v5).setCell (p:=⟨X,41,none⟩) (fun h=>h rfl) v6).setCell (p:=⟨X,42,none⟩) (fun h=>h rfl) v7).setCell (p:=⟨X,43,none⟩) (fun h=>h rfl) v8).setCell (p:=⟨X,44,none⟩) (fun h=>h rfl) v9)
theorem x_get26 {C:ConfM}{m:Nat}{W W2:WrM}{v1 cv v2:Value}(j:Nat)(x:Value)(h:(W2.vals v1)[j]? =some x):(C.list++(C.plan.flat++(Value.pointer (some ⟨m,0,none⟩)::(W2.vals v1++(cv::W.vals v2)))))[26+j]? =some x:=by
 obtain⟨hl,_⟩:=List.getElem?_eq_some_iff.1 h;have e1:C.list.length=10:=rfl;have e2:C.plan.flat.length=15:=rfl;rw[List.getElem?_append_right (by omega),List.getElem?_append_right (by omega),e1,e2,show 26+j-10-15=j+1 by omega,List.getElem?_cons_succ,List.getElem?_append_left hl]
 exact h
theorem x_get35 {C:ConfM}{m:Nat}{W W2:WrM}{v1 cv v2:Value}(j:Nat)(x:Value)(h:(cv::W.vals v2)[j]? =some x):(C.list++(C.plan.flat++(Value.pointer (some ⟨m,0,none⟩)::(W2.vals v1++(cv::W.vals v2)))))[35+j]? =some x:=by
 have e1:C.list.length=10:=rfl;have e2:C.plan.flat.length=15:=rfl;have e3:(W2.vals v1).length=9:=rfl;rw[List.getElem?_append_right (by omega),List.getElem?_append_right (by omega),e1,e2,show 35+j-10-15=9+j+1 by omega,List.getElem?_cons_succ,List.getElem?_append_right (by omega),e3,show 9+j-9=j by omega]
 exact h
theorem x_get25 {C:ConfM}{m:Nat}{W W2:WrM}{v1 cv v2:Value}:(C.list++(C.plan.flat++(Value.pointer (some ⟨m,0,none⟩)::(W2.vals v1++(cv::W.vals v2)))))[25]? =some (.pointer (some ⟨m,0,none⟩)):=by
 have e1:C.list.length=10:=rfl;have e2:C.plan.flat.length=15:=rfl;rw[List.getElem?_append_right (by omega),List.getElem?_append_right (by omega),e1,e2];rfl
set_option maxRecDepth 100000 in
set_option maxHeartbeats 8000000 in
theorem law_do {w0 w:World}{K:Nat→Prop}{X m c:Nat}{C:ConfM}{P:Pools}{cs:List Int}{W:WrM}{st:Int}{live:SegM}{s0:Nat}{t0:Tab}{q0:Nat→Nat}{hi0:Nat}(hw:Wd w0 w K X m c C cs W st)(G:Good C P cs W live s0 t0 q0 hi0)(hT:PTab w0)(hF:FoldTab w0)
  (del:Bool) (id:Int) (fs:List ByteArray) (FA:Option Addr) (fc:Nat) (hfl:SlAt w K 1 (.slice FA fs.length fc) fs.length (fs.map Value.string)) (hfn:fs.length≤1000000) (hid0:U32 id) (hv:W.ver+1≤4294967294)
  {W':WrM} {er:Int} {cs':List Int} {n:Nat} (hideal:(opT C W live ⟨del,id,fs⟩).ideal cs=some ((W',er),cs',n)) (hn:n<1048576) (her:0≤er∧er≤7) (hsm:er≠0→W'=W) (hbnd:W'.segs.length≤65536∧cs'.length≤maxLen)
  (hway:if del=true then rdelL ⟨cs,W⟩ id=(er,⟨cs',W'⟩)else match toksM fs with|none=>er=4∧W'=W∧cs'=cs|some toks=>AddWay C cs W live s0 id toks (termsP cs t0 C.plan.slots.toNat toks []) W' er cs'):
  Z 13 #[.pointer (some ⟨X,0,none⟩),.agg #[.bool del,J id,.slice FA fs.length fc]] w fun e w'=>
   e= .returned (.bool true)∧(∃st',Wd w0 w' (fun b=>K b∨(w.heap.size≤b∧b<w'.heap.size)) X m c C cs' W' st'∧((opT C W live ⟨del,id,fs⟩).wr cs=0→st'=st))∧Keeps (fun b=>b<w.heap.size∧b≠X∧b≠m∧b≠c) w w':=by
 obtain⟨SA,sc,CA,cc,TA,tc,hX,hs1,hsc,hs2⟩:=hw.obj;obtain⟨μ,hm,hμc,hμs⟩:=hw.mem;have hXl:=hX.lt;have hml:=hm.obj.lt;have hcl:=hm.cells.lt;have hx25:w.cell? ⟨X,25,none⟩=some (.pointer (some ⟨m,0,none⟩)):=(hX.cell 25).trans rfl;have Hx26:=hid (show∀j x,(W.vals (.slice SA W.segs.length sc))[j]? =some x→w.cell? ⟨X,26+j,none⟩=some x from fun j x hx=>by
  refine(hX.cell (26+j)).trans ?_;unfold xCells;obtain⟨hl,_⟩:=List.getElem?_eq_some_iff.1 hx;have e1:C.list.length=10:=rfl;have e2:C.plan.flat.length=15:=rfl;rw[List.getElem?_append_right (by omega),List.getElem?_append_right (by omega),e1,e2,show 26+j-10-15=j+1 by omega,List.getElem?_cons_succ,List.getElem?_append_left hl]
  exact hx)
 have HWD:=hid hw;have HGD:=hid G;have HX:=hid hX;have HS1:=hid hs1;have HSC:=hid hsc;have HS2:=hid hs2;have HM:=hid hm;have Hmc:=hid hμc;have Hms:=hid hμs;have HFL:=hid hfl;have HT:=hid hT;have HF:=hid hF;have HID:=hid hideal;have Hway:=hid hway;have Hsm:=hid hsm;have HU:=hid hid0;clear hw hX hs1 hsc hs2 hm hμc hμs hfl hT hF hideal hway hsm hid0 G;generalize htree:opT C W live ⟨del,id,fs⟩=tr at*
 have Htr:=hid htree;clear htree;obtain⟨segs,wt,wv,u0,u1,u2,u3,u4,u5⟩:=W;have hnwc:∀b,K b→b<w.heap.size:=HWD.out.lt;have hxm:=HWD.out.xm;have hxc:=HWD.out.xc;refine calls_hide fun R' hR'=>?_
 go_enter Tryz.func13,Tryz.ntmps13
 go_upto_region 1 with fail
 refine wp_gen (fun W=>Blk W w.heap.size [.bool del,J id,.slice FA fs.length fc]∧Keeps (· <w.heap.size) w W∧W.heap.size=w.heap.size+1) ⟨?_,?_,?_⟩ (fun w1 HW=>?_)
 ·exact bA
 ·exact kA
 ·simp
 obtain⟨hO,hk1,hz1⟩:=HW;generalize hBB:w.heap.size=B at*;have y0:=(World.cell?_of_block (a:=⟨X,26,none⟩) (hk1.block X hXl)).trans (Hx26.out 0 _ rfl);have y1:=(World.cell?_of_block (a:=⟨X,27,none⟩) (hk1.block X hXl)).trans (Hx26.out 1 _ rfl);have y2:=(World.cell?_of_block (a:=⟨X,28,none⟩) (hk1.block X hXl)).trans (Hx26.out 2 _ rfl);have y3:=(World.cell?_of_block (a:=⟨X,29,none⟩) (hk1.block X hXl)).trans (Hx26.out 3 _ rfl)
 have y4:=(World.cell?_of_block (a:=⟨X,30,none⟩) (hk1.block X hXl)).trans (Hx26.out 4 _ rfl);have y5:=(World.cell?_of_block (a:=⟨X,31,none⟩) (hk1.block X hXl)).trans (Hx26.out 5 _ rfl);have y6:=(World.cell?_of_block (a:=⟨X,32,none⟩) (hk1.block X hXl)).trans (Hx26.out 6 _ rfl);have y7:=(World.cell?_of_block (a:=⟨X,33,none⟩) (hk1.block X hXl)).trans (Hx26.out 7 _ rfl);have y8:=(World.cell?_of_block (a:=⟨X,34,none⟩) (hk1.block X hXl)).trans (Hx26.out 8 _ rfl)
 dsimp only at y0 y1 y2 y3 y4 y5 y6 y7 y8;have HO:=hid hO;have Hk1:=hid hk1;have Hnwc:=hid hnwc;clear hO hk1 hnwc
 go_upto_region 2 with fail
 refine wp_gen (fun W=>Blk W (B+1) [.slice SA segs.length sc,I wt,J wv,I u0,I u1,I u2,I u3,I u4,I u5]∧Blk W (B+1+1) [I 0]∧Blk W B [.bool del,J id,.slice FA fs.length fc]∧Keeps (· <B) w W∧W.heap.size=B+1+1+1) ⟨?_,?_,?_,?_,?_⟩ (fun w2 HW=>?_)
 ·exact(Blk.new' w1 [.slice SA segs.length sc,I wt,J wv,I u0,I u1,I u2,I u3,I u4,I u5] _ hz1.symm).alloc _
 ·exact Blk.new' _ [I 0] _ (by simp[hz1])
 ·exact(HO.out.alloc _).alloc _
 ·exact(Hk1.out.alloc (fun b hb=>by omega) _).alloc (fun b hb=>by simp;omega) _
 ·simp[hz1]
 clear HO Hk1 y0 y1 y2 y3 y4 y5 y6 y7 y8 hz1;obtain⟨hWB,hEB,hO,hk2,hz2⟩:=HW;have hX2:=HX.out.keep hk2 hXl;obtain⟨b0,b1,b2⟩:=hO.c3;have HWB:=hid hWB;have HEB:=hid hEB;have Hk2:=hid hk2;have HX2:=hid hX2;have HO:=hid hO;clear hWB hEB hk2 hX2 hO
 go_wp2_with fail
 refine(law_program X (B+1) (B+1+1) m C ⟨segs,wt,wv,⟨u0,u1,u2,u3,u4,u5⟩⟩ SA TA CA segs.length sc segs.length tc cs.length cc del id FA fs.length fc w2 HX2.out).mono ?_;rintro e w3 ⟨rfl,hXB,hOB,hPW,hPE,hWS,hk3⟩;have hWB3:=HWB.out.keep hk3 HWB.out.lt;have hEB3:=HEB.out.keep hk3 HEB.out.lt;have hX3:=HX2.out.keep hk3 HX2.out.lt;have hk3w:Keeps (· <B) w w3:=Hk2.out.trans (hk3.mono fun b hb=>by omega)
 have hO3:=HO.out.keep hk3 HO.out.lt;have hl3:=hWS.lt;rw[hz2]at hXB hOB hPW hPE hWS hl3;simp only[hz2];clear HWB HEB HX2 Hk2 HO hk3 b0 b1 b2 hz2;have hC3:CloAt w3 X (B+1+1+1+1) (B+1+1+1) (B+1+1+1+1+1+1+1) (B+1+1+1+1+1) (B+1+1+1+1+1+1) (B+1) (B+1+1) m C ⟨segs,wt,wv,⟨u0,u1,u2,u3,u4,u5⟩⟩ (.slice SA segs.length sc) (.slice TA segs.length tc) (.slice CA cs.length cc) del id (.slice FA fs.length fc):=
  ⟨hX3,hXB,hOB,hPW,hPE,hWS,⟨_,rfl,hWB3⟩,⟨_,hEB3⟩⟩
 have x25:=(World.cell?_of_block (a:=⟨X,25,none⟩) (hk3w.block X hXl)).trans hx25;clear hX3 hXB hOB hPW hPE hWS hWB3 hEB3;have HC3:=hid hC3;have Hk3w:=hid hk3w;have HO3:=hid hO3;clear hC3 hk3w hO3
 go_wp2_with fail
 refine(step_new w3 m).mono ?_;rintro e w4 ⟨rfl,hr4,hk4,hz4⟩;clear x25;have hm3:=HM.out.keep Hk3w.out hml hcl;have hR4:RM w4 (fun b=>b<w3.heap.size∧b≠m∧b≠c) w3.heap.size m c ⟨run0,μ⟩:=RM.init hm3 hr4 hk4 (fun b hb=>hb);have hC4:=HC3.out.keep hk4 fun b hb=>by
  show b<w3.heap.size
  rcases hb with rfl|rfl|rfl|rfl|rfl|rfl|rfl|rfl<;>omega
 have hO4:=HO3.out.keep hk4 HO3.out.lt;have hk4w:=Hk3w.out.trans (hk4.mono fun b hb=>by omega)
 clear HC3 Hk3w hr4 hk4 hm3 HO3;generalize hRR:w3.heap.size=R at*;clear hRR;have HGX:=hid (show∀b,(b=0∨b=X∨b=B+1+1+1+1∨b=B+1+1+1∨b=B+1+1+1+1+1+1+1∨b=B+1+1+1+1+1∨b=B+1+1+1+1+1+1∨b=B+1∨b=B+1+1)→(b<R∧b≠m∧b≠c)from fun b hb=>by
  have h0:(0:Nat)≠m∧(0:Nat)≠c:=by
   have h1:=HWD.out.k0 0 HT.out.2.2.2.2;exact⟨fun e=>HWD.out.km (e▸h1),fun e=>HWD.out.kc (e▸h1)⟩
  rcases hb with rfl|rfl|rfl|rfl|rfl|rfl|rfl|rfl|rfl
  ·exact⟨by omega,h0.1,h0.2⟩
  ·exact⟨by omega,hxm,hxc⟩
  all_goals exact⟨by omega,by omega,by omega⟩)
 have hneR:R≠m∧R≠c:=⟨by omega,by omega⟩
 have HR4:=hid hR4;have HC4:=hid hC4;have Hk4w:=hid hk4w;have HO4:=hid hO4;have HneR:=hid hneR;clear hR4 hC4 hk4w hO4 hneR
 go_wp2_with fail
 have HN9:=hid (show CloNe X (B+1+1+1+1) (B+1+1+1) (B+1+1+1+1+1+1+1) (B+1+1+1+1+1) (B+1+1+1+1+1+1) (B+1) (B+1+1)from⟨⟨by omega,by omega,by omega,by omega,by omega,by omega⟩,⟨by omega,by omega,by omega,by omega,by omega,by omega⟩,by omega⟩)
 have HKG:=hid (show∀b,K b→(b<R∧b≠m∧b≠c)∧b≠B+1∧b≠B+1+1 from fun b hb=>by
  have h1:=Hnwc.out b hb;exact⟨⟨by omega,fun e=>HWD.out.km (e▸hb),fun e=>HWD.out.kc (e▸hb)⟩,by omega,by omega⟩)
 have HKW:=hid (show∀W5,Keeps (fun b=>(b<R∧b≠m∧b≠c)∧b≠B+1∧b≠B+1+1) w4 W5→PTab W5∧FoldTab W5∧SlAt W5 K 3 (.slice SA segs.length sc) segs.length (segs.flatMap SegM.cells)∧SlAt W5 K 1 (.slice CA cs.length cc) cs.length (cs.map (Value.int .u32))∧SlAt W5 K 3 (.slice TA segs.length tc) segs.length (segs.flatMap SegM.cells)∧SlAt W5 K 1 (.slice FA fs.length fc) fs.length (fs.map Value.string)∧Keeps (· <w0.heap.size) w0 W5∧Keeps (fun b=>b<B∧b≠m∧b≠c) w W5 from fun W5 h5=>by
  have hwB:Keeps (fun b=>b<B∧b≠m∧b≠c) w W5:=(Hk4w.out.mono fun b hb=>hb.1).trans (h5.mono fun b hb=>⟨⟨by omega,hb.2⟩,by omega,by omega⟩)
  have hKB:∀b,K b→b<B∧b≠m∧b≠c:=fun b hb=>⟨Hnwc.out b hb,(HKG.out b hb).1.2⟩;have h0:Keeps (· <w0.heap.size) w0 W5:=HWD.out.kp.trans (hwB.mono fun b hb=>hKB b (HWD.out.k0 b hb));exact⟨HT.out.keep (K:=fun b=>b<w0.heap.size) h0 HT.out.2.2.2.2,HF.out.keep h0,HS1.out.keep hwB hKB,HSC.out.keep hwB hKB,HS2.out.keep hwB hKB,HFL.out.keep hwB hKB,h0,hwB⟩)
 clear hml hcl hx25
 go_loopw[23] (fun i wr=>∃(j n':Nat) (s:St) (rest:Tree (WrM×Int)),i=I j∧j≤n∧Way tr s rest∧rest.ideal s.m.cells=some ((W',er),cs',n')∧s.r.log.length=j∧((j=0∧n'=n)∨(0<j∧j+n'=n∧1≤n'))∧(tr.wr cs=0→rest.wr s.m.cells=0∧s.m.stores=st)∧RM wr (fun b=>b<R∧b≠m∧b≠c) R m c s∧CloAt wr X (B+1+1+1+1) (B+1+1+1) (B+1+1+1+1+1+1+1) (B+1+1+1+1+1) (B+1+1+1+1+1+1) (B+1) (B+1+1) m C ⟨segs,wt,wv,⟨u0,u1,u2,u3,u4,u5⟩⟩ (.slice SA segs.length sc) (.slice TA segs.length tc) (.slice CA cs.length cc) del id (.slice FA fs.length fc)∧Keeps (fun b=>(b<R∧b≠m∧b≠c)∧b≠B+1∧b≠B+1+1) w4 wr) (fun i _=>1048576-(intOf i).toNat)
 case atStart=>exact⟨0,n,_,_,rfl,Nat.zero_le _,way_start tr μ false false false 0,by rw[Tree.ideal_norm];show tr.ideal μ.cells=_;rw[Hmc.out];exact HID.out,rfl,Or.inl ⟨rfl,rfl⟩,fun h=>⟨by rw[Tree.wr_norm];show tr.wr μ.cells=0;rw[Hmc.out];exact h,Hms.out⟩,HR4.out,HC4.out,Keeps.refl _ _⟩
 case round=>
  clear HR4 HC4 HID;obtain⟨j,n',s,rest,rfl,hj,hway9,hideal,hlen,hjn,hwr,hR,hC,hKp⟩:=hrel;have hjB:(j:Int)<1048576:=by omega
  have HWY:=hid hway9;have HIDE:=hid hideal;have HLN:=hid hlen;have HJN:=hid hjn;have HWR:=hid hwr;have HR:=hid hR;have HC:=hid hC;have HKP:=hid hKp;clear hway9 hideal hlen hjn hwr hR hC hKp
  go_wp2_with fail
  refine(run_step HR.out HWY.out.over (by have:=HLN.out;omega) 34 #[.pointer (some ⟨B+1+1+1+1,0,none⟩),.pointer (some ⟨B+1+1+1,0,none⟩),.pointer (some ⟨B+1+1+1+1+1+1+1,0,none⟩),.pointer (some ⟨B+1+1+1+1+1,0,none⟩),.pointer (some ⟨B+1+1+1+1+1+1,0,none⟩)] (fun _ _=>rfl) tr (fun w2=>CloAt w2 X (B+1+1+1+1) (B+1+1+1) (B+1+1+1+1+1+1+1) (B+1+1+1+1+1) (B+1+1+1+1+1+1) (B+1) (B+1+1) m C ⟨segs,wt,wv,⟨u0,u1,u2,u3,u4,u5⟩⟩ (.slice SA segs.length sc) (.slice TA segs.length tc) (.slice CA cs.length cc) del id (.slice FA fs.length fc)∧Keeps (fun b=>(b<R∧b≠m∧b≠c)∧b≠B+1∧b≠B+1+1) w4 w2∧CloOut w2 w4.heap.size K R m c (B+1) (B+1+1) (s.step tr).1) ?_).mono ?_
  ·intro w5 hk5 hR5;have hC5:=HC.out.keep hk5 fun b hb=>HGX.out b (Or.inr hb);have hG5:Keeps (fun b=>(b<R∧b≠m∧b≠c)∧b≠B+1∧b≠B+1+1) w4 w5:=HKP.out.trans (hk5.mono fun b hb=>hb.1);obtain⟨g1,g2,g3,g4,g5,g6,g7,g8⟩:=HKW.out w5 hG5;have hb9:=HGD.out.base;have hro:=HGD.out.room;have hrw:=HGD.out.row;have hclen:=HGD.out.clen;have hall9:=HGD.out.all;have hrl:=HGD.out.dic.rep.len
   have hpb:=plan_base5 C HGD.out.ok;have hbk9:=HGD.out.ok.k0;have hsz4:C.plan.size.a4=C.book:=rfl;have hd9:=HGD.out.ok.d0;have hwt:=HGD.out.terms;have hfew:=HGD.out.few;have ht1:=HGD.out.ok.t1;have hver:=HGD.out.ver;have hns9:=HGD.out.nseg;dsimp only at hwt hfew hver hns9 hv;refine(law_clo (Ks:=K) hR5 X (B+1+1+1+1) (B+1+1+1) (B+1+1+1+1+1+1+1) (B+1+1+1+1+1) (B+1+1+1+1+1+1) (B+1) (B+1+1) C ⟨segs,wt,wv,⟨u0,u1,u2,u3,u4,u5⟩⟩ live SA TA CA sc segs.length tc cs.length cc del id fs FA fc hC5 HN9.out HGX.out HKG.out g1 g2 ⟨HGD.out.ok,by omega⟩ HGD.out.last g3 (g6.mono fun b hb=>(HKG.out b hb).1) hfn HGD.out.segOk (by dsimp only;omega) HU.out ⟨hver,by dsimp only;omega⟩ HGD.out.uin (by dsimp only;omega) (by omega)).mono ?_
   rintro e w6 ⟨rfl,h1,h2,h3⟩;rw[Htr.out]at h1 h3;obtain⟨p1,A9,c9,p2,p3⟩:=h3;have hne:=HN9.out;obtain⟨⟨n1,n2,n3,n4,n5,n6⟩,⟨n7,n8,n9,n10,n11,n12⟩,n13⟩:=hne;refine⟨rfl,h1,⟨hC5.x.keep h2 ⟨HGX.out _ (by simp),n1,n7⟩,hC5.xb.keep h2 ⟨HGX.out _ (by simp),n3,n9⟩,hC5.ob.keep h2 ⟨HGX.out _ (by simp),n2,n8⟩,hC5.pw.keep h2 ⟨HGX.out _ (by simp),n5,n11⟩,hC5.pe.keep h2 ⟨HGX.out _ (by simp),n6,n12⟩,hC5.ws.keep h2 ⟨HGX.out _ (by simp),n4,n10⟩,⟨_,rfl,p2⟩,⟨_,p1⟩⟩,hG5.trans h2,p1,A9,c9,p2,?_⟩
   have hs5:=hG5.size;exact p3.mono fun b hb=>hb.imp (fun h=>h) fun h=>⟨by omega,h.2⟩
  ·rintro e w9 ⟨rfl,hR9,w8,⟨hC8,hK8,hO8⟩,hk9⟩;have hC9:=hC8.keep hk9 fun b hb=>by have h1:=(HGX.out b (Or.inr hb)).1;show b≠R;omega
   have hK9:=hK8.trans (hk9.mono fun b hb=>by have:=hb.1.1;show b≠R;omega)
   have hO9:=hO8.keep hk9 (by show B+1≠R;have:=(HGX.out (B+1) (by simp)).1;omega) (by show B+1+1≠R;have:=(HGX.out (B+1+1) (by simp)).1;omega) (fun b hb=>by
    rcases hb with h|h
    ·have:=(HKG.out b h).1.1;show b≠R;omega
    ·exact h.2.2.1)
   rcases ideal_step2 HWY.out HIDE.out with⟨q1,q2,q3,q4,q5,q6,q7⟩|⟨q1,q2,rest',q3,q4,q5,q6⟩
   ·rw[q2];rw[q6]at hO9;have hst9:tr.wr cs=0→(s.step tr).2.m.stores=st:=fun h=>(q7 (HWR.out h).1).trans (HWR.out h).2;generalize (s.step tr).2=s' at*;clear q7 q5;clear HN9 HGX;obtain⟨-,-,g3,g4,g5,g6,g7,g8⟩:=HKW.out w9 hK9;have hKl:∀b,K b→b<w9.heap.size:=fun b hb=>by have:=Hnwc.out b hb;have:=g8.size;omega
    obtain⟨segs',t',v',x0,x1,x2,x3,x4,x5⟩:=W';have hO9b:=HO4.out.keep hK9 ⟨⟨by omega,by have:=HWD.out.mem;obtain⟨_,hm9,_⟩:=this;have:=hm9.obj.lt;omega,by have:=HWD.out.mem;obtain⟨_,hm9,_⟩:=this;have:=hm9.cells.lt;omega⟩,by omega,by omega⟩
    obtain⟨b0,b1,b2⟩:=hO9b.c3;have hwant:=law_want X m C ⟨segs,wt,wv,⟨u0,u1,u2,u3,u4,u5⟩⟩ HGD.out SA TA CA segs.length sc tc cc del id fs FA fc w9 K hKl hC9.x g4 g5 g6 hfn hv Hway.out;have HWN:=hid hwant;clear hwant;have HR9:=hid hR9;have HC9:=hid hC9;have HK9:=hid hK9;have HO9:=hid hO9;have Hst9:=hid hst9;have Q3:=hid q3;have Q4:=hid q4;have G3:=hid g3;have G4:=hid g4
    have G5:=hid g5;have G6:=hid g6;have G7:=hid g7;have G8:=hid g8;have HO9b:=hid hO9b;have HKl:=hid hKl;clear hR9 hC9 hK9 hO9 hst9 q3 q4 g3 g4 g5 g6 g7 g8 hO9b hKl;clear HWY HIDE HLN HJN HWR HR HC HKP hC8 hK8 hO8 hk9
    go_wp2_with fail
    refine HWN.out.mono ?_;rintro e w10 ⟨cv,sv,rfl,f1,f2,hk10⟩;unfold WrM.vals;dsimp only;have f1':=f1;have f2':=f2;have HBND:=hid (show segs'.length≤65536∧cs'.length≤maxLen from hbnd)
    obtain⟨A3,c3,rfl,_⟩:=f1';obtain⟨A4,c4,rfl,_⟩:=f2';have hR10:=HR9.out.below hk10;have hlt9:=HR9.out.lts;have hG9:=HR9.out.lt;have hC10:=HC9.out.keep hk10 fun b hb=>by
     have h1:∀b,(b=X∨b=B+1+1+1+1∨b=B+1+1+1∨b=B+1+1+1+1+1+1+1∨b=B+1+1+1+1+1∨b=B+1+1+1+1+1+1∨b=B+1∨b=B+1+1)→b<R:=fun b h=>by rcases h with rfl|rfl|rfl|rfl|rfl|rfl|rfl|rfl<;>omega
     show b<w9.heap.size;have:=h1 b hb
     omega
    have hO10:=HO9.out.keep hk10 (by show B+1<w9.heap.size;omega) (by show B+1+1<w9.heap.size;omega) (fun b hb=>by
     rcases hb with h|h
     ·exact HKl.out b h
     ·exact h.2.1)
    have hk10w:Keeps (fun b=>b<B∧b≠m∧b≠c) w w10:=G8.out.trans (hk10.mono fun b hb=>by have:=G8.out.size;omega)
    clear HWN HR9 HC9 HO9 HO9b G3 G4 G5 G6 G7 b0 b1 b2;have HR10:=hid hR10;have HC10:=hid hC10;have HO10:=hid hO10;have Hk10w:=hid hk10w;have F1:=hid f1;have F2:=hid f2;clear hR10 hC10 hO10 hk10w f1 f2;have Hk10:=hid hk10;clear hk10
    go_upto_region 9 with fail
    have hka:Keeps (· <w10.heap.size) w10 (w10.alloc (.cells #[.slice A3 cs'.length c3,.slice A4 segs'.length c4,I t',J v',I x0,I x1,I x2,I x3,I x4,I x5] 49)):=(Keeps.refl _ _).alloc (fun b hb=>hb) _;have hSB:=Blk.new w10 [.slice A3 cs'.length c3,.slice A4 segs'.length c4,I t',J v',I x0,I x1,I x2,I x3,I x4,I x5] 49;have hz11:=World.size_alloc w10 (.cells #[.slice A3 cs'.length c3,.slice A4 segs'.length c4,I t',J v',I x0,I x1,I x2,I x3,I x4,I x5] 49)
    have hR11:=HR10.out.below hka;have hG10:=HR10.out.lt;have hlt10:=HR10.out.lts;have hs10:w9.heap.size≤w10.heap.size:=Hk10.out.size;have hX11:=HC10.out.x.keep hka (by show X<w10.heap.size;omega)
    have hO11:=HO10.out.keep hka (by show B+1<w10.heap.size;omega) (by show B+1+1<w10.heap.size;omega) (fun b hb=>by
     rcases hb with h|h
     ·have:=HKl.out b h;show b<w10.heap.size;omega
     ·exact h.2.1)
    have hk11w:=Hk10w.out.trans (hka.mono fun b hb=>by have:=Hk10w.out.size;omega)
    have hf1:=F1.out.keep hka fun b hb=>by rcases hb with h|h;(have:=HKl.out b h;show b<w10.heap.size;omega);exact h.2
    have hf2:=F2.out.keep hka fun b hb=>by rcases hb with h|h;(have:=HKl.out b h;show b<w10.heap.size;omega);exact h.2
    generalize hSBe:w10.heap.size=SB at*;generalize w10.alloc (.cells #[.slice A3 cs'.length c3,.slice A4 segs'.length c4,I t',J v',I x0,I x1,I x2,I x3,I x4,I x5] 49)=w11 at*;clear HR10 HC10 HO10 Hk10w F1 F2 hka;obtain⟨gl,hrun,hgl⟩:=hR11.run;have hm11:=hR11.mem;obtain⟨hEB,A9,c9,hWB,hsg9⟩:=hO11;have ez:=hEB.cell 0;simp only[List.getElem?_cons_zero]at ez;unfold WrM.vals at hWB
    dsimp only at hWB ez hsg9;have hee:(er !=er)=false:=by simp
    have hsb2:=hSB;have hX11l:=hX11.lt;have Hrun:=hid hrun;have Hm11:=hid hm11;have HX11:=hid hX11;have HWB:=hid hWB;have HEB:=hid hEB;have Hsg9:=hid hsg9;have Hk11w:=hid hk11w;have Hf1:=hid hf1;have Hf2:=hid hf2;have HSB:=hid hSB;clear hrun hm11 hX11 hWB hEB hsg9 hk11w hf1 hf2 hSB;clear hgl hR11 hsb2
    go_wp2_with fail
    refine(run_over Hrun.out).mono ?_;rintro e w' ⟨rfl,rfl⟩;rw[q2]
    go_wp2_with fail
    refine(run_err Hrun.out).mono ?_;rintro e w' ⟨rfl,rfl⟩;rw[Q3.out];have HNS:=hid (show segs'.length≤65536 from(HBND.out).1)
    have HCM:=hid (show cs'.length≤maxLen from(HBND.out).2)
    by_cases h0:er=0
    ·subst h0;have hwbc:=HWB.out;obtain⟨l0,l1,l2,l3,l4,l5,l6,l7,l8⟩:=hwbc.c9;clear hwbc;have y0:w11.cell? ⟨X,26,none⟩=some (.slice SA segs.length sc):=(HX11.out.cell 26).trans (x_get26 0 _ rfl);have y1:w11.cell? ⟨X,27,none⟩=some (I wt):=(HX11.out.cell 27).trans (x_get26 1 _ rfl);have y2:w11.cell? ⟨X,28,none⟩=some (J wv):=(HX11.out.cell 28).trans (x_get26 2 _ rfl)
     have y3:w11.cell? ⟨X,29,none⟩=some (I u0):=(HX11.out.cell 29).trans (x_get26 3 _ rfl);have y4:w11.cell? ⟨X,30,none⟩=some (I u1):=(HX11.out.cell 30).trans (x_get26 4 _ rfl);have y5:w11.cell? ⟨X,31,none⟩=some (I u2):=(HX11.out.cell 31).trans (x_get26 5 _ rfl);have y6:w11.cell? ⟨X,32,none⟩=some (I u3):=(HX11.out.cell 32).trans (x_get26 6 _ rfl);have y7:w11.cell? ⟨X,33,none⟩=some (I u4):=(HX11.out.cell 33).trans (x_get26 7 _ rfl)
     have y8:w11.cell? ⟨X,34,none⟩=some (I u5):=(HX11.out.cell 34).trans (x_get26 8 _ rfl);have f0:w11.frozen? ⟨X,26,none⟩=false:=HX11.out.free 26;have f1:w11.frozen? ⟨X,27,none⟩=false:=HX11.out.free 27;have f2:w11.frozen? ⟨X,28,none⟩=false:=HX11.out.free 28;have f3:w11.frozen? ⟨X,29,none⟩=false:=HX11.out.free 29;have f4:w11.frozen? ⟨X,30,none⟩=false:=HX11.out.free 30
     have f5:w11.frozen? ⟨X,31,none⟩=false:=HX11.out.free 31;have f6:w11.frozen? ⟨X,32,none⟩=false:=HX11.out.free 32;have f7:w11.frozen? ⟨X,33,none⟩=false:=HX11.out.free 33;have f8:w11.frozen? ⟨X,34,none⟩=false:=HX11.out.free 34
     go_upto_region 13 with fail
     obtain⟨lx,hbx,hlx⟩:=blk_x26 HX11.out ⟨segs',t',v',⟨x0,x1,x2,x3,x4,x5⟩⟩ (.slice A9 segs'.length c9);dsimp only at hbx;have hkx:=keeps_x26 w11 X (.slice A9 segs'.length c9) (I t') (J v') (I x0) (I x1) (I x2) (I x3) (I x4) (I x5);generalize (((((((((w11.setCell ⟨X,26,none⟩ (.slice A9 segs'.length c9)).setCell ⟨X,27,none⟩ (I t')).setCell ⟨X,28,none⟩ (J v')).setCell ⟨X,29,none⟩ (I x0)).setCell ⟨X,30,none⟩ (I x1)).setCell ⟨X,31,none⟩ (I x2)).setCell ⟨X,32,none⟩ (I x3)).setCell ⟨X,33,none⟩ (I x4)).setCell ⟨X,34,none⟩ (I x5))=w12 at*
     rw[hlx]at hbx;clear hlx y0 f0 l0 y1 f1 l1 y2 f2 l2 y3 f3 l3 y4 f4 l4 y5 f5 l5 y6 f6 l6 y7 f7 l7 y8 f8 l8;have hsA:SlAt w12 (fun b=>K b∨(B≤b∧b<w12.heap.size∧b≠m∧b≠c∧b≠X)) 3 (.slice A9 segs'.length c9) segs'.length (segs'.flatMap SegM.cells):=(Hsg9.out.keep hkx fun b hb=>by rcases hb with h|h;exact fun e=>HWD.out.kx (e▸h);(show b≠X;omega)).mono fun b hb=>hb.imp (fun h=>h) fun h=>⟨by omega,by have:=hkx.size;omega,h.2.2.2.1,h.2.2.2.2,by omega⟩
     have zz160:=PLift.up @c755;exact c754
    ·have h0b:(er==0)=false:=by simpa using h0
     have hsW:=Hsm.out h0;injection hsW with s1 s2 s3 s4
     injection s4 with s4 s5 s6 s7 s8 s9
     subst s1 s2 s3 s4 s5 s6 s7 s8 s9;have hkx:Keeps (· ≠X) w11 w11:=Keeps.refl _ _;have hbx:=HX11.out;unfold xCells at hbx;have hkw11:=Hk11w.out;have hsA:SlAt w11 (fun b=>K b∨(B≤b∧b<w11.heap.size∧b≠m∧b≠c∧b≠X)) 3 (.slice SA segs'.length sc) segs'.length (segs'.flatMap SegM.cells):=(HS1.out.keep hkw11 fun b hb=>⟨Hnwc.out b hb,fun e=>HWD.out.km (e▸hb),fun e=>HWD.out.kc (e▸hb)⟩).mono fun b hb=>Or.inl hb
     clear hkw11
     go_upto_region 13 with fail
     have zz160:=PLift.up @c756;exact c754
   ·rw[q2];have hwr9:tr.wr cs=0→rest'.wr (s.step tr).2.m.cells=0∧(s.step tr).2.m.stores=st:=fun h=>⟨(q6 (HWR.out h).1).1,((q6 (HWR.out h).1).2).trans (HWR.out h).2⟩;generalize (s.step tr).2=s' at*;have hrel9:∃(j' n'':Nat) (s2:St) (rest2:Tree (WrM×Int)),(j:Int)+1=(j':Int)∧j'≤n∧Way tr s2 rest2∧rest2.ideal s2.m.cells=some ((W',er),cs',n'')∧s2.r.log.length=j'∧((j'=0∧n''=n)∨(0<j'∧j'+n''=n∧1≤n''))∧(tr.wr cs=0→rest2.wr s2.m.cells=0∧s2.m.stores=st)∧RM w9 (fun b=>b<R∧b≠m∧b≠c) R m c s2∧CloAt w9 X (B+1+1+1+1) (B+1+1+1) (B+1+1+1+1+1+1+1) (B+1+1+1+1+1) (B+1+1+1+1+1+1) (B+1) (B+1+1) m C ⟨segs,wt,wv,⟨u0,u1,u2,u3,u4,u5⟩⟩ (.slice SA segs.length sc) (.slice TA segs.length tc) (.slice CA cs.length cc) del id (.slice FA fs.length fc)∧Keeps (fun b=>(b<R∧b≠m∧b≠c)∧b≠B+1∧b≠B+1+1) w4 w9:=
     ⟨j+1,n'-1,s',rest',by omega,by rcases HJN.out with h|h<;>omega,q3,q4,by have:=HLN.out;omega,Or.inr ⟨by omega,by rcases HJN.out with h|h<;>omega,by omega⟩,hwr9,hR9,hC9,hK9⟩
    have HREL:=hid hrel9;clear hrel9 hwr9 q3 q4 q5 q6 hR9 hC9 hK9 hO9 hC8 hK8 hO8 hk9 HWY HIDE HLN HJN HWR HR HC HKP
    go_wp2_with fail
    go_roundw
    case rel=>
     obtain⟨j',n'',s2,rest2,e1,e2⟩:=HREL.out;exact⟨j',n'',s2,rest2,by first|(rw[←e1];done)|(rw[←e1];rfl)|go_num,e2⟩
    case measure=>exact msA
end Go.Proofs.YtogdknnkhkjmcaaGreatDoor
