/- Layer 12's statements: a call's closure. Printed by gen/lwc.py. -/
import Derived.Test.YtogdknnkhkjmcaaGreatDoorJLwB
import Derived.Test.YtogdknnkhkjmcaaGreatDoorJWrU
namespace Go.Proofs.YtogdknnkhkjmcaaGreatDoor
open Go.RowKit
set_option linter.all false
theorem opT_add (C:ConfM)(W:WrM)(live:SegM)(id:Int)(fs:List ByteArray)(s:St):(opT C W live ⟨false,id,fs⟩).exec s=addR C W live id fs s:=by
 unfold opT addR;dsimp only;rw[if_neg Bool.false_ne_true]
 cases toksM fs<;>rfl
theorem opT_del (C:ConfM)(W:WrM)(live:SegM)(id:Int)(fs:List ByteArray)(s:St):(opT C W live ⟨true,id,fs⟩).exec s=(delT W id).exec s:=by
 unfold opT;rw[if_pos rfl]
def CloOut (w:World)(n0:Nat)(Ks:Nat→Prop)(r m c WB EB:Nat)(y:WrM×Int):Prop:=
 Blk w EB [.int .i64 y.2]∧∃A cp,Blk w WB (y.1.vals (.slice A y.1.segs.length cp))∧SlAt w (fun b=>Ks b∨(n0≤b∧b<w.heap.size∧b≠r∧b≠m∧b≠c)) 3 (.slice A y.1.segs.length cp) y.1.segs.length (y.1.segs.flatMap SegM.cells)
theorem CloOut.keep {w w':World}{n0:Nat}{Ks:Nat→Prop}{r m c WB EB:Nat}{y:WrM×Int}(h:CloOut w n0 Ks r m c WB EB y){L:Nat→Prop}(k:Keeps L w w')(h1:L WB)(h2:L EB)(hL:∀b,(Ks b∨(n0≤b∧b<w.heap.size∧b≠r∧b≠m∧b≠c))→L b):CloOut w' n0 Ks r m c WB EB y:=by
 obtain⟨g1,A,cp,g2,g3⟩:=h;have:=k.size;exact⟨g1.keep k h2,A,cp,g2.keep k h1,(g3.keep k hL).mono fun b hb=>hb.imp (fun h=>h) fun h=>⟨h.1,by omega,h.2.2⟩⟩
theorem delT_segs (W:WrM)(id:Int)(s:St):((delT W id).exec s).1.1.segs=W.segs:=by
 unfold delT;rw[Tree.exec_bind]
 split
 ·rfl
 ·split
  ·rfl
  ·rw[Tree.exec_bind];show((if _ then _ else _:Tree (WrM×Int)).exec _).1.1.segs=_
   split
   ·rfl
   ·rw[Tree.exec_bind];rfl
structure CloAt (w:World)(X OB XB WS PW PE WB EB m:Nat)(C:ConfM)(W:WrM)(v1 v2 cv:Value)(del:Bool)(id:Int)(fv:Value):Prop where
 x:Blk w X (xCells C m W v1 cv v2)
 xb:Blk w XB [.pointer (some ⟨X,0,none⟩)]
 ob:Blk w OB [.bool del,.int .u32 id,fv]
 pw:Blk w PW [.pointer (some ⟨WB,0,none⟩)]
 pe:Blk w PE [.pointer (some ⟨EB,0,none⟩)]
 ws:Blk w WS (W.vals v1)
 wb:∃l:List Value,l.length=9∧Blk w WB l
 eb:∃e:Int,Blk w EB [.int .i64 e]
theorem CloAt.keep {w w':World}{X OB XB WS PW PE WB EB m:Nat}{C:ConfM}{W:WrM}{v1 v2 cv:Value}{del:Bool}{id:Int}{fv:Value}(h:CloAt w X OB XB WS PW PE WB EB m C W v1 v2 cv del id fv){K:Nat→Prop}(k:Keeps K w w')(hK:∀b,(b=X∨b=OB∨b=XB∨b=WS∨b=PW∨b=PE∨b=WB∨b=EB)→K b):CloAt w' X OB XB WS PW PE WB EB m C W v1 v2 cv del id fv:=by
 obtain⟨l,h1,h2⟩:=h.wb;obtain⟨e,h3⟩:=h.eb;exact⟨h.x.keep k (hK _ (by simp)),h.xb.keep k (hK _ (by simp)),h.ob.keep k (hK _ (by simp)),h.pw.keep k (hK _ (by simp)),h.pe.keep k (hK _ (by simp)),h.ws.keep k (hK _ (by simp)),⟨l,h1,h2.keep k (hK _ (by simp))⟩,⟨e,h3.keep k (hK _ (by simp))⟩⟩
def CloNe (X OB XB WS PW PE WB EB:Nat):Prop:=(X≠WB∧OB≠WB∧XB≠WB∧WS≠WB∧PW≠WB∧PE≠WB)∧(X≠EB∧OB≠EB∧XB≠EB∧WS≠EB∧PW≠EB∧PE≠EB)∧WB≠EB
set_option maxRecDepth 100000 in
set_option maxHeartbeats 4000000 in
theorem law_clo {w:World}{G Ks:Nat→Prop}{r m c:Nat}{s:St}(hR:RM w G r m c s)(X OB XB WS PW PE WB EB:Nat)(C:ConfM)(W:WrM)(live:SegM)(SA TA CA:Option Addr)(sc tn tc cn cc:Nat)(del:Bool)(id:Int)(fs:List ByteArray)(FA:Option Addr)(fc:Nat)
  (hC:CloAt w X OB XB WS PW PE WB EB m C W (.slice SA W.segs.length sc) (.slice TA tn tc) (.slice CA cn cc) del id (.slice FA fs.length fc)) (hN:CloNe X OB XB WS PW PE WB EB) (hG:∀b,(b=0∨b=X∨b=OB∨b=XB∨b=WS∨b=PW∨b=PE∨b=WB∨b=EB)→G b) (hKs:∀b,Ks b→G b∧b≠WB∧b≠EB)
  (hT:PTab w) (hF:FoldTab w) (hcf:C.ok∧C.all≤65536) (hlive:W.segs.getLast?=some live) (hsl:SlAt w Ks 3 (.slice SA W.segs.length sc) W.segs.length (W.segs.flatMap SegM.cells)) (hfl:SlAt w G 1 (.slice FA fs.length fc) fs.length (fs.map Value.string)) (hfn:fs.length≤1000000)
  (hok:∀x∈W.segs,(-1099511627700≤x.addr∧x.addr≤1099511627700)∧x.docs≤65536) (hns:W.segs.length≤65536) (hi:U32 id) (hv:0≤W.ver∧W.ver≤4294967294) (hu:UIn C.plan W.used) (htm:0≤W.terms∧W.terms≤65536) (hlb:0≤live.base∧live.base≤65000):
  Calls Tryz.prog 34 #[.pointer (some ⟨r,0,none⟩),.pointer (some ⟨OB,0,none⟩),.pointer (some ⟨XB,0,none⟩),.pointer (some ⟨WS,0,none⟩),.pointer (some ⟨PW,0,none⟩),.pointer (some ⟨PE,0,none⟩)] w fun e w2=>
   e= .returned (.tuple #[])∧RM w2 G r m c ((opT C W live ⟨del,id,fs⟩).exec s).2∧Keeps (fun b=>G b∧b≠WB∧b≠EB) w w2∧CloOut w2 w.heap.size Ks r m c WB EB ((opT C W live ⟨del,id,fs⟩).exec s).1:=by
 obtain⟨l9,hl9,hWB⟩:=hC.wb;obtain⟨e0,hEB⟩:=hC.eb;have hres9:∃segs' t' v' x0 x1 x2 x3 x4 x5 er sz,(opT C W live ⟨del,id,fs⟩).exec s=((⟨segs',t',v',⟨x0,x1,x2,x3,x4,x5⟩⟩,er),sz):=⟨_,_,_,_,_,_,_,_,_,_,_,rfl⟩;obtain⟨segs',t',v',x0,x1,x2,x3,x4,x5,er,sz,hres⟩:=hres9;have hsame:del=true→segs'=W.segs:=fun hd=>by
  subst hd;rw[opT_del]at hres;have h9:=delT_segs W id s;rw[hres]at h9;exact h9
 rw[hres];obtain⟨⟨n1,n2,n3,n4,n5,n6⟩,⟨n7,n8,n9,n10,n11,n12⟩,n13⟩:=hN;have k1:=n1.symm;have k2:=n2.symm;have k3:=n3.symm;have k4:=n4.symm;have k5:=n5.symm;have k6:=n6.symm;have k7:=n7.symm;have k8:=n8.symm;have k9:=n9.symm;have k10:=n10.symm;have k11:=n11.symm;have k12:=n12.symm;have k13:=n13.symm
 match l9,hl9 with
 | [l0,l1,l2,l3,l4,l5,l6,l7,l8],_=>
 obtain⟨segs,wt,wv,u0,u1,u2,u3,u4,u5⟩:=W;obtain⟨docs,terms,q0,q1,q2,q3,book,room,kk,bb⟩:=C;have hX:=hC.x;have hWS:=hC.ws;unfold xCells WrM.vals ConfM.list PlanM.flat at hX;unfold WrM.vals at hWS;dsimp only at hX hWS hsame hok hns hsl;simp only[List.cons_append,List.nil_append]at hX;have HC:=hid hC;have HX:=hid hX;have HWS:=hid hWS;have HWB:=hid hWB;have HEB:=hid hEB
 have HR:=hid hR;have HG:=hid hG;have HKS:=hid hKs;have HT:=hid hT;have HF:=hid hF;have Hcf:=hid hcf;have Hlive:=hid hlive;have HSL:=hid hsl;have HFL:=hid hfl;have Hok:=hid hok;have Hui:=hid hu;have Hv:=hid hv;have Htm:=hid htm;have Hlb:=hid hlb;have Hid9:=hid hi;have a0:=hC.ob.cell 0;simp only[List.getElem?_cons_zero]at a0;refine calls_hide fun R' hR'=>?_;clear hC hX hWS hWB hEB hR hG hKs hT hF hcf hlive hsl hfl hok hu hv htm hlb hi
 go_enter Tryz.func34,Tryz.ntmps34
 cases del with
 |true=>
  rw[opT_del]at hres;have hsg:segs=segs':=(hsame rfl).symm;subst hsg;clear hsame;have Hres:=hid hres;clear hres;have c1:=(HC.out.pw).cell 0;have c2:=(HC.out.pe).cell 0;have c3:=(HC.out.xb).cell 0;have b1:=(HC.out.ob).cell 1;have zz41:=@c278;exact c277
 |false=>
  rw[opT_add]at hres;clear hsame;have Hres:=hid hres;clear hres;have c1:=(HC.out.pw).cell 0;have c2:=(HC.out.pe).cell 0;have c3:=(HC.out.xb).cell 0;have b1:=(HC.out.ob).cell 1;have b2:=(HC.out.ob).cell 2;have zz41:=@c279;exact c277
def Tree.wr {α:Type}:Tree α→List Int→Nat
 | .ret _,_=>0
 | .load a k,cs=>(k (cs.getD a.toNat 0)).wr cs
 | .store a v k,cs=>1+k.wr (cs.set a.toNat v)
 | .off k,cs=>(k false).wr cs
theorem Tree.wr_norm {α:Type}(t:Tree α)(cs:List Int):t.norm.wr cs=t.wr cs:=by
 exact c101
theorem ideal_step2 {α:Type}{t rest:Tree α}{s:St}{x:α}{cs':List Int}{n:Nat}(h:Way t s rest)(hi:rest.ideal s.m.cells=some (x,cs',n)):
  (n≤1∧(s.step t).2.r.over=true∧(s.step t).2.r.err=0∧(s.step t).2.m.cells=cs'∧(s.step t).2.r.log.length=s.r.log.length+n∧(s.step t).1=x∧(rest.wr s.m.cells=0→(s.step t).2.m.stores=s.m.stores))∨
  (1<n∧(s.step t).2.r.over=false∧∃rest',Way t (s.step t).2 rest'∧rest'.ideal (s.step t).2.m.cells=some (x,cs',n-1)∧(s.step t).2.r.log.length=s.r.log.length+1∧(rest.wr s.m.cells=0→rest'.wr (s.step t).2.m.cells=0∧(s.step t).2.m.stores=s.m.stores)):=by
 have hn:rest.norm=rest:=by rw[←h.rest];exact t.peel_norm _
 rcases rest.norm_cases hn with⟨y,e⟩|⟨a,k,e⟩|⟨a,v,k,e⟩
 ·subst e;injection hi with hi;injection hi with h1 h2;injection h2 with h2 h3
  subst h1 h2 h3;rw[way_end h];exact Or.inl ⟨by omega,rfl,rfl,rfl,rfl,rfl,fun _=>rfl⟩
 ·subst e;unfold Tree.ideal at hi
  split at hi
  ·rename_i hin
   have hb:s.m.inb a=true:=(inb_iff _ _).2 hin;have hv:s.m.cells.getD a.toNat 0=s.m.at a:=rfl;rw[hv]at hi;obtain⟨y,hy,hy2⟩:=Option.map_eq_some_iff.1 hi;injection hy2 with h1 h2;injection h2 with h2 h3
   obtain⟨w1,w2⟩:=way_load h hb;have hc:(s.step t).2.m.cells=s.m.cells:=by rw[w1];simp[MemS.load,hb]
   have hst:(s.step t).2.m.stores=s.m.stores:=by rw[w1];simp[MemS.load,hb]
   have hl:(s.step t).2.r.log.length=s.r.log.length+1:=by rw[w1];simp
   have hwr:(Tree.load a k).wr s.m.cells=(k (s.m.at a)).wr s.m.cells:=rfl
   cases hr:(k (s.m.at a)).norm.isRet
   ·refine Or.inr ⟨?_,by rw[w1];exact hr,_,way_next_load h hb hr,?_,hl,fun h0=>⟨?_,hst⟩⟩
    ·have:y.2.2≠0:=by
      intro h0;have:=(Tree.ideal_norm (k (s.m.at a)) s.m.cells).trans hy
      rcases Tree.norm_cases _ (Tree.norm_norm (k (s.m.at a)))with⟨z,e⟩|⟨b,k',e⟩|⟨b,v',k',e⟩
      ·rw[e]at hr;cases hr
      ·exact c70
      ·exact c70
     omega
    ·rw[hc,Tree.ideal_norm,hy];obtain⟨y1,y2,y3⟩:=y;simp only at h1 h2 h3;subst h1 h2 h3
     rfl
    ·rw[hc,Tree.wr_norm,←hwr];exact h0
   ·obtain⟨z1,z2,z3⟩:=Tree.ideal_ret (x:=y.1) (cs':=y.2.1) (n:=y.2.2) hy hr;refine Or.inl ⟨by omega,by rw[w1];exact hr,by rw[w1],by rw[hc,←h2,z2],by rw[hl];omega,?_,fun _=>hst⟩
    rw[w2 _ z1,h1]
  ·cases hi
 ·subst e;unfold Tree.ideal at hi
  split at hi
  ·rename_i hin
   have hb:s.m.inb a=true:=(inb_iff _ _).2 hin;obtain⟨y,hy,hy2⟩:=Option.map_eq_some_iff.1 hi;injection hy2 with h1 h2;injection h2 with h2 h3
   obtain⟨w1,w2⟩:=way_store h hb;have hc:(s.step t).2.m.cells=s.m.cells.set a.toNat v:=by rw[w1];simp[MemS.store,hb]
   have hl:(s.step t).2.r.log.length=s.r.log.length+1:=by rw[w1];simp
   have hwr:(Tree.store a v k).wr s.m.cells≠0:=by
    show 1+_≠0
    omega
   cases hr:k.norm.isRet
   ·refine Or.inr ⟨?_,by rw[w1];exact hr,_,way_next_store h hb hr,?_,hl,fun h0=>absurd h0 hwr⟩
    ·have:y.2.2≠0:=by
      intro h0;have:=(Tree.ideal_norm k (s.m.cells.set a.toNat v)).trans hy
      rcases Tree.norm_cases _ (Tree.norm_norm k)with⟨z,e⟩|⟨b,k',e⟩|⟨b,v',k',e⟩
      ·rw[e]at hr;cases hr
      ·exact c70
      ·exact c70
     omega
    ·rw[hc,Tree.ideal_norm,hy];obtain⟨y1,y2,y3⟩:=y;simp only at h1 h2 h3;subst h1 h2 h3
     rfl
   ·obtain⟨z1,z2,z3⟩:=Tree.ideal_ret (x:=y.1) (cs':=y.2.1) (n:=y.2.2) hy hr;refine Or.inl ⟨by omega,by rw[w1];exact hr,by rw[w1],by rw[hc,←h2,z2],by rw[hl];omega,?_,fun h0=>absurd h0 hwr⟩
    rw[w2 _ z1,h1]
  ·cases hi
set_option maxRecDepth 100000 in
set_option maxHeartbeats 4000000 in
theorem Tryz.eqArr6 (a b c d e f:Int)(w:World):(Op.equalIn 10000 40 (.agg #[I a,I b,I c,I d,I e,I f]) (.agg #[I a,I b,I c,I d,I e,I f])).run Tryz.prog w= .ok true w:=by
 have u3:=Tryz.underlying3;have a3:=Tryz.isAgg3;have z3:=Tryz.sizeOf3;rw[show(10000:Nat)=9999+1 from rfl,Op.equalIn]
 simp only[Sem.run_bind,run_underlying Tryz.underlying40,Result.andThen_ok];simp only[Std.Legacy.Range.forIn_eq_forIn_range',Std.Legacy.Range.size,Nat.sub_zero,Nat.add_sub_cancel,Nat.div_one,List.range'_succ,List.range'_zero,List.forIn_cons,List.forIn_nil]
 go_simp
set_option maxRecDepth 100000 in
set_option maxHeartbeats 4000000 in
theorem ref12_same (segs:List SegM)(wt wv u0 u1 u2 u3 u4 u5:Int)(A:Option Addr)(cp:Nat)(A2:Option Addr)(cp2:Nat)(w:World)(K:Nat→Prop)(hb:∀b,K b→b<w.heap.size)
  (h1:SlAt w K 3 (.slice A segs.length cp) segs.length (segs.flatMap SegM.cells)) (h2:SlAt w K 3 (.slice A2 segs.length cp2) segs.length (segs.flatMap SegM.cells)) (hn:segs.length≤65536):
  Calls Tryz.prog 27 #[.agg #[.slice A segs.length cp,I wt,J wv,I u0,I u1,I u2,I u3,I u4,I u5],.agg #[.slice A2 segs.length cp2,I wt,J wv,I u0,I u1,I u2,I u3,I u4,I u5]] w fun e w'=>
   e= .returned (.bool true)∧Keeps (· <w.heap.size) w w':=by
 have hka:Keeps (· <w.heap.size) w ((w.alloc (.cells #[.slice A segs.length cp,I wt,J wv,I u0,I u1,I u2,I u3,I u4,I u5] 46)).alloc (.cells #[.slice A2 segs.length cp2,I wt,J wv,I u0,I u1,I u2,I u3,I u4,I u5] 46)):=by
  exact kA
 have hA:=(Blk.new w [.slice A segs.length cp,I wt,J wv,I u0,I u1,I u2,I u3,I u4,I u5] 46).alloc (.cells #[.slice A2 segs.length cp2,I wt,J wv,I u0,I u1,I u2,I u3,I u4,I u5] 46);have hB:=Blk.new (w.alloc (.cells #[.slice A segs.length cp,I wt,J wv,I u0,I u1,I u2,I u3,I u4,I u5] 46)) [.slice A2 segs.length cp2,I wt,J wv,I u0,I u1,I u2,I u3,I u4,I u5] 46;rw[World.size_alloc]at hB
 have Hb:=hid hb;have H1:=hid h1;have H2:=hid h2;have Hka:=hid hka;have HA:=hid hA;have HB:=hid hB;clear hb h1 h2 hka hA hB;refine calls_hide fun R' hR'=>?_
 go_enter Tryz.func27,Tryz.ntmps27
 go_upto_region 1 with fail
 refine wp_gen (fun W=>Blk W w.heap.size [.slice A segs.length cp,I wt,J wv,I u0,I u1,I u2,I u3,I u4,I u5]∧Blk W (w.heap.size+1) [.slice A2 segs.length cp2,I wt,J wv,I u0,I u1,I u2,I u3,I u4,I u5]∧Keeps (· <w.heap.size) w W) ⟨HA.out,HB.out,Hka.out⟩ (fun W1 HW=>?_);obtain⟨hA1,hB1,hk1⟩:=HW;clear HA HB Hka;obtain⟨y0,y1,y2,y3,y4,y5,y6,y7,y8⟩:=hA1.c9;obtain⟨z0,z1,z2,z3,z4,z5,z6,z7,z8⟩:=hB1.c9
 have heq:=fun W=>Tryz.eqArr6 u0 u1 u2 u3 u4 u5 W
 go_wp2_with fail
 clear y1 y2 y3 y4 y5 y6 y7 y8 z1 z2 z3 z4 z5 z6 z7 z8;generalize hBB:w.heap.size=B at*
 go_loopw[5,37] (fun _ iv wx=>∃(i:Nat),iv=I (i:Int)∧i≤segs.length∧Hid (Blk wx B [.slice A segs.length cp,I wt,J wv,I u0,I u1,I u2,I u3,I u4,I u5])∧Hid (Blk wx (B+1) [.slice A2 segs.length cp2,I wt,J wv,I u0,I u1,I u2,I u3,I u4,I u5])∧Hid (Keeps (· <B) w wx)) (fun _ iv _=>segs.length-(intOf iv).toNat)
 case atStart=>exact⟨0,rfl,Nat.zero_le _,hid hA1,hid hB1,hid hk1⟩
 case round=>
  clear hA1 hB1 hk1 y0 z0;obtain⟨i,rfl,hile,HA,HB,HK⟩:=hrel
  by_cases hil:i<segs.length
  ·have hilI:(i:Int)<(segs.length:Int):=by omega
   obtain⟨x,hx⟩:∃x,segs[i]? =some x:=⟨_,List.getElem?_eq_getElem hil⟩;obtain⟨b0,o0,rfl,hkb,g1⟩:=SlAt.rec (SegM.len3 segs) H1.out i x hx;obtain⟨b2,o2,rfl,hkb2,g2⟩:=SlAt.rec (SegM.len3 segs) H2.out i x hx;have hh0:=Hb.out _ hkb;have hh2:=Hb.out _ hkb2;have zz55:=@c331;exact c329
  ·obtain rfl:i=segs.length:=by omega
   have hilI:¬(segs.length:Int)<(segs.length:Int):=by omega
   exact c113
end Go.Proofs.YtogdknnkhkjmcaaGreatDoor
