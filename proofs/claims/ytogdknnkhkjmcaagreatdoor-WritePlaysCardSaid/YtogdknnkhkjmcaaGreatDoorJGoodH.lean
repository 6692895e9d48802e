/- Layer 11 (the document's answer): contract of Lay. Printed by gen/rcf.py. -/
import Derived.Test.YtogdknnkhkjmcaaGreatDoorGoodG
import Derived.Test.YtogdknnkhkjmcaaGreatDoorJRcM
namespace Go.Proofs.YtogdknnkhkjmcaaGreatDoor
open Go.RowKit
set_option linter.all false
def layK3 (cs:List Int)(q:Nat)(id ln born:Int):Nat→List Int
 |0=>cs
 |1=>cs.set q born
 |2=>(cs.set q born).set (q+1) id
 |_=>((cs.set q born).set (q+1) id).set (q+2) ln
def layL (cs:List Int)(q:Nat)(id ln born:Int):List Int:=((cs.set q born).set (q+1) id).set (q+2) ln
theorem layK3_len (cs:List Int)(q:Nat)(id ln born:Int):∀k,(layK3 cs q id ln born k).length=cs.length
 |0=>rfl
 |1=>by simp[layK3]
 |2=>by simp[layK3]
 |k+3=>by simp[layK3]
set_option maxRecDepth 100000 in
set_option maxHeartbeats 4000000 in
theorem ref11_lay (cs:List Int)(b d:Int)(q:Nat)(id ln born:Int)(A:Option Addr)(cp:Nat)(w:World)(K:Nat→Prop)(hb:∀b,K b→b<w.heap.size)(hsl:SlAt w K 1 (.slice A cs.length cp) cs.length (cs.map (Value.int .u32)))(hcn:cs.length≤65536)
  (hbs: -1099511627776≤b∧b≤1099511627776) (hds:0≤d∧d≤65536) (hq:b+4*d=(q:Int)) (hq2:q+2<cs.length):
  Calls Tryz.prog 66 #[.slice A cs.length cp,I b,I d,J id,J ln,J born] w fun e w'=>∃nb,e= .returned (.tuple #[.slice (some ⟨nb,0,none⟩) cs.length cs.length,.bool true])∧w.heap.size≤nb∧Blk w' nb ((layL cs q id ln born).map (Value.int .u32))∧Keeps (· <w.heap.size) w w':=by
 obtain⟨b0,b1⟩:=hbs;obtain⟨d0,d1⟩:=hds;have hw1:IntKind.i64.wrap (4*d)=4*d:=IntWalk.i64_in _ (by omega)
 have hw2:IntKind.i64.wrap (b+4*d)=(q:Int):=by rw[IntWalk.i64_in _ (by omega),hq]
 have HQ:=hid hq;clear hq;have Hb:=hid hb;have Hsl:=hid hsl;clear hb hsl;refine calls_hide fun R' hR'=>?_
 go_enter Tryz.func66,Tryz.ntmps66
 go_wp2_with fail
 have hka:Keeps (· <w.heap.size) w (w.alloc (.cells #[J born,J id,J ln] 178)):=(Keeps.refl _ _).alloc (fun b hb=>hb) _;have hA:=Blk.new w [J born,J id,J ln] 178;have hsz:(w.alloc (.cells #[J born,J id,J ln] 178)).heap.size=w.heap.size+1:=World.size_alloc _ _;generalize w.alloc (.cells #[J born,J id,J ln] 178)=W1 at*;refine(ref01_copy cs A cp W1 K (fun b hb=>by have:=Hb.out b hb;omega) (Hsl.out.keep hka Hb.out) (by omega) hcn).mono ?_
 rintro e w2 ⟨rfl,hB2,hk2⟩;rw[hsz]at hB2 ⊢;have hA2:=hA.keep hk2 (by omega)
 have hK2:=hka.trans (hk2.mono fun b hb=>by omega)
 clear hka hA hk2 hsz;generalize hBB:w.heap.size=B at*;have HB2:=hid hB2;have HA2:=hid hA2;have HK2:=hid hK2;have HBB:=hid hBB;clear hB2 hA2 hK2 hBB
 go_wp2_with fail
 go_loopw[16] (fun iv wx=>∃(k:Nat),iv=I (k:Int)∧k≤3∧Hid (Blk wx (B+1) ((layK3 cs q id ln born k).map (Value.int .u32)))∧Hid (Blk wx B [J born,J id,J ln])∧Hid (Keeps (· <B) w wx)) (fun iv _=>3-(intOf iv).toNat)
 case atStart=>exact⟨0,rfl,by decide,HB2,HA2,HK2⟩
 case round=>
  clear HB2 HA2 HK2;obtain⟨k,rfl,hk3,HB,HA,HK⟩:=hrel;have hkc:k=0∨k=1∨k=2∨k=3:=by omega
  clear hk3
  rcases hkc with rfl|rfl|rfl|rfl
  ·have hA:=HA.out;have c0:wr.cell? ⟨B,0,none⟩=some (J born):=hA.cell 0;have hlen:((layK3 cs q id ln born 0).map (Value.int .u32)).length=cs.length:=by rw[List.length_map,layK3_len]
   have hwk:IntKind.i64.wrap ((q:Int)+0)=(q:Int):=by rw[IntWalk.i64_in _ (by omega)];omega
   have hin:(q:Int)<(cs.length:Int):=by omega
   have hin0:¬(q:Int)<0:=by omega
   have hd0:decide ((q:Int)<0)=false:=decide_eq_false (by omega)
   have hd1:decide ((cs.length:Int)≤(q:Int))=false:=decide_eq_false (by omega)
   obtain⟨old,hold⟩:∃u,((layK3 cs q id ln born 0).map (Value.int .u32))[q]? =some u:=⟨_,List.getElem?_eq_getElem (by rw[hlen];omega)⟩
   have hcell:=(HB.out.cell q).trans hold;have hfr:=HB.out.free q;have hst:=HB.out.set q (J born);have hst:Blk (wr.setCell ⟨B+1,q,none⟩ (J born)) (B+1) ((layK3 cs q id ln born 1).map (Value.int .u32)):=by
    rw[show(layK3 cs q id ln born 1).map (Value.int .u32)=((layK3 cs q id ln born 0).map (Value.int .u32)).set q (J born)from by simp[layK3,List.map_set]]
    exact hst
   have hA2:=hA.set_ne (a:=⟨B+1,q,none⟩) (J born) (by show B≠B+1;omega)
   have hkk:=HK.out.setCell (p:=⟨B+1,q,none⟩) (fun h=>by have h:B+1<B:=h;omega) (J born)
   clear hA hlen hold;have Hst:=hid hst;have HA2:=hid hA2;have Hkk:=hid hkk;clear hst hA2 hkk
   go_wp2_with fail
   go_roundw
   case rel=>exact⟨1,rfl,by decide,Hst,HA2,Hkk⟩
   case measure=>exact msA
  ·have hA:=HA.out;have c1:wr.cell? ⟨B,1,none⟩=some (J id):=hA.cell 1;have hlen:((layK3 cs q id ln born 1).map (Value.int .u32)).length=cs.length:=by rw[List.length_map,layK3_len]
   have hwk:IntKind.i64.wrap ((q:Int)+1)=((q+1:Nat):Int):=by rw[IntWalk.i64_in _ (by omega)];omega
   have hin:((q+1:Nat):Int)<(cs.length:Int):=by omega
   have hin0:¬((q+1:Nat):Int)<0:=by omega
   have hd0:decide (((q+1:Nat):Int)<0)=false:=decide_eq_false (by omega)
   have hd1:decide ((cs.length:Int)≤((q+1:Nat):Int))=false:=decide_eq_false (by omega)
   obtain⟨old,hold⟩:∃u,((layK3 cs q id ln born 1).map (Value.int .u32))[(q+1)]? =some u:=⟨_,List.getElem?_eq_getElem (by rw[hlen];omega)⟩
   have hcell:=(HB.out.cell (q+1)).trans hold;have hfr:=HB.out.free (q+1);have hst:=HB.out.set (q+1) (J id);have hst:Blk (wr.setCell ⟨B+1,(q+1),none⟩ (J id)) (B+1) ((layK3 cs q id ln born 2).map (Value.int .u32)):=by
    rw[show(layK3 cs q id ln born 2).map (Value.int .u32)=((layK3 cs q id ln born 1).map (Value.int .u32)).set (q+1) (J id)from by simp[layK3,List.map_set]]
    exact hst
   have hA2:=hA.set_ne (a:=⟨B+1,(q+1),none⟩) (J id) (by show B≠B+1;omega)
   have hkk:=HK.out.setCell (p:=⟨B+1,(q+1),none⟩) (fun h=>by have h:B+1<B:=h;omega) (J id)
   clear hA hlen hold;have Hst:=hid hst;have HA2:=hid hA2;have Hkk:=hid hkk;clear hst hA2 hkk
   go_wp2_with fail
   go_roundw
   case rel=>exact⟨2,rfl,by decide,Hst,HA2,Hkk⟩
   case measure=>exact msA
  ·have hA:=HA.out;have c2:wr.cell? ⟨B,2,none⟩=some (J ln):=hA.cell 2;have hlen:((layK3 cs q id ln born 2).map (Value.int .u32)).length=cs.length:=by rw[List.length_map,layK3_len]
   have hwk:IntKind.i64.wrap ((q:Int)+2)=((q+2:Nat):Int):=by rw[IntWalk.i64_in _ (by omega)];omega
   have hin:((q+2:Nat):Int)<(cs.length:Int):=by omega
   have hin0:¬((q+2:Nat):Int)<0:=by omega
   have hd0:decide (((q+2:Nat):Int)<0)=false:=decide_eq_false (by omega)
   have hd1:decide ((cs.length:Int)≤((q+2:Nat):Int))=false:=decide_eq_false (by omega)
   obtain⟨old,hold⟩:∃u,((layK3 cs q id ln born 2).map (Value.int .u32))[(q+2)]? =some u:=⟨_,List.getElem?_eq_getElem (by rw[hlen];omega)⟩
   have hcell:=(HB.out.cell (q+2)).trans hold;have hfr:=HB.out.free (q+2);have hst:=HB.out.set (q+2) (J ln);have hst:Blk (wr.setCell ⟨B+1,(q+2),none⟩ (J ln)) (B+1) ((layK3 cs q id ln born 3).map (Value.int .u32)):=by
    rw[show(layK3 cs q id ln born 3).map (Value.int .u32)=((layK3 cs q id ln born 2).map (Value.int .u32)).set (q+2) (J ln)from by simp[layK3,List.map_set]]
    exact hst
   have hA2:=hA.set_ne (a:=⟨B+1,(q+2),none⟩) (J ln) (by show B≠B+1;omega)
   have hkk:=HK.out.setCell (p:=⟨B+1,(q+2),none⟩) (fun h=>by have h:B+1<B:=h;omega) (J ln)
   clear hA hlen hold;have Hst:=hid hst;have HA2:=hid hA2;have Hkk:=hid hkk;clear hst hA2 hkk
   go_wp2_with fail
   go_roundw
   case rel=>exact⟨3,rfl,by decide,Hst,HA2,Hkk⟩
   case measure=>exact msA
  ·go_wp2_with fail
   exact hR'.out _ _ ⟨B+1,rfl,by omega,HB.out,HK.out⟩
structure Good (C:ConfM)(P:Pools)(cs:List Int)(W:WrM)(live:SegM)(s:Nat)(t:Tab)(q:Nat→Nat)(hi:Nat):Prop where
 ok:C.ok
 all:C.all≤65000
 clen:(cs.length:Int)=C.all
 dic:DicAt C.plan P s C.plan.slots.toNat cs W.used t q hi
 last:W.segs.getLast?=some live
 raw:live.sealed=false
 row:live.addr+1+4*C.docs=(s:Int)
 room:C.plan.base.a5≤live.addr
 docs:(live.docs:Int)≤C.docs
 segs:∀x∈W.segs,C.plan.base.a5≤x.base∧x.base+4*(x.docs:Int)≤(cs.length:Int)∧x.docs≤64∧(x.base+4*(x.docs:Int)≤(s:Int)∨((s+C.plan.slots.toNat:Nat):Int)≤x.base)
 nseg:W.segs.length≤4096
 terms:W.terms=(occ t C.plan.slots.toNat:Int)
 few:W.terms≤C.terms
 used:∀k,k<6→0≤W.used.g6 k∧W.used.g6 k≤C.plan.size.g6 k
 ver:0≤W.ver
section
variable {C:ConfM}{P:Pools}{cs:List Int}{W:WrM}{live:SegM}{s:Nat}{t:Tab}{q:Nat→Nat}{hi:Nat}
theorem plan_slots (C:ConfM)(h:C.ok):C.terms<C.plan.slots∧128≤C.plan.slots∧C.plan.slots≤512:=by
 have:=h.t0;have:=h.t1;unfold ConfM.plan;dsimp only
 split
 ·omega
 ·split<;>omega
theorem plan_base5 (C:ConfM)(h:C.ok):3≤C.plan.base.a4∧C.plan.base.a4+C.plan.size.a4=C.plan.base.a5∧C.plan.base.a5+C.plan.size.a5=C.all:=by
 have:=h.a0;have:=h.b0;have:=h.c0;have:=h.e0;unfold ConfM.plan ConfM.all;dsimp only
 omega
theorem Good.base (G:Good C P cs W live s t q hi):live.base=live.addr+1:=by unfold SegM.base;rw[G.raw,if_neg (by decide)]
theorem Good.slot (G:Good C P cs W live s t q hi):live.base+4*C.docs=(s:Int):=by rw[G.base];exact G.row
theorem Good.docs64 (G:Good C P cs W live s t q hi):C.docs≤64:=G.ok.d1
theorem Good.sn (G:Good C P cs W live s t q hi):((C.plan.slots.toNat:Nat):Int)=C.plan.slots:=by have:=plan_slots C G.ok;omega
theorem Good.place (G:Good C P cs W live s t q hi)(id:Int):∃c,c≤262144∧(placeT id W.segs 0).ideal cs=some (rplaceL cs id W.segs 0,cs,c):=by
 have hb:=plan_base5 C G.ok;have h4:=G.dic.base;have hbk:=G.ok.k0;obtain⟨c,h1,h2⟩:=place_ideal (cs:=cs) (id:=id) W.segs 0 fun x hx=>by
  have:=G.segs x hx;have h5:C.plan.size.a4=C.book:=rfl
  omega
 have hs:∀l:List SegM,(∀x∈l,x.docs≤64)→sumDocs l≤64*l.length:=fun l=>by
  induction l with
  |nil=>intro _;exact Nat.le_refl _
  |cons x r ih=>
   intro h;have h1:=ih fun y hy=>h y (List.mem_cons_of_mem _ hy);have h2:=h x List.mem_cons_self;have h3:sumDocs (x::r)=x.docs+sumDocs r:=by simp[sumDocs]
   rw[h3,List.length_cons];omega
 have h3:=hs W.segs fun x hx=>(G.segs x hx).2.2.1;have h4:=G.nseg;exact⟨c,by omega,h2⟩
def addW (W:WrM)(fr:Int)(u':V6):WrM:=⟨moreDocs W.segs,W.terms+fr,W.ver+1,u'⟩
inductive AddWay (C:ConfM) (cs:List Int) (W:WrM) (live:SegM) (s:Nat) (id:Int) (toks:List TokI) (all:List TermM):WrM→Int→List Int→Prop
 |dup:(rplaceL cs id W.segs 0).2.2=true→AddWay C cs W live s id toks all W 6 cs
 |seg:(rplaceL cs id W.segs 0).2.2=false→C.docs≤(live.docs:Int)→AddWay C cs W live s id toks all W 5 cs
 |terms:(rplaceL cs id W.segs 0).2.2=false→¬C.docs≤(live.docs:Int)→C.terms-W.terms<(needsP C.plan all 0 zero6).1→AddWay C cs W live s id toks all W 5 cs
 |full:(rplaceL cs id W.segs 0).2.2=false→¬C.docs≤(live.docs:Int)→¬C.terms-W.terms<(needsP C.plan all 0 zero6).1→fitsP C.plan W.used (needsP C.plan all 0 zero6).2=false→AddWay C cs W live s id toks all W 3 cs
 |good (cs1:List Int) (u':V6) (qa:Nat):(rplaceL cs id W.segs 0).2.2=false→¬C.docs≤(live.docs:Int)→¬C.terms-W.terms<(needsP C.plan all 0 zero6).1→fitsP C.plan W.used (needsP C.plan all 0 zero6).2=true→
   WordsTo C.plan s C.plan.slots.toNat (live.docs:Int) toks cs W.used cs1 u'→live.base+4*(live.docs:Int)=(qa:Int)→qa+2<cs1.length→AddWay C cs W live s id toks all (addW W (needsP C.plan all 0 zero6).1 u') 0 ((layL cs1 qa id (toks.length:Int) (W.ver+1)).set 1 (W.ver+1))
theorem lay_ideal {cs:List Int}{b d id ln born:Int}{qa:Nat}{α:Type}{x:α}(h:b+4*d=(qa:Int))(hq:qa+2<cs.length)(hv:1<cs.length):((layT b d id ln born).bind fun _=> .store 1 born (.ret x)).ideal cs=some (x,(layL cs qa id ln born).set 1 born,4):=by
 unfold layT;show(Tree.store (b+4*d+1) id (.store (b+4*d+2) ln (.store (b+4*d+0) born (.store 1 born (.ret x))))).ideal cs=_;rw[store_ideal (i:=qa+1) (by omega) (by omega),store_ideal (i:=qa+2) (by omega) (by rw[List.length_set];omega),store_ideal (i:=qa) (by omega) (by rw[List.length_set,List.length_set];omega),
  store_ideal (a:=1) (i:=1) rfl (by rw[List.length_set,List.length_set,List.length_set];omega)]
 have e:((cs.set (qa+1) id).set (qa+2) ln).set qa born=layL cs qa id ln born:=by
  unfold layL;rw[List.set_comm _ _ (show qa+2≠qa by omega),List.set_comm _ _ (show qa+1≠qa by omega)]
 rw[e]
 rfl
theorem DicAt.frame {p:PlanM}{P:Pools}{s n:Nat}{cs cs':List Int}{u:V6}{t:Tab}{q:Nat→Nat}{hi:Nat}(D:DicAt p P s n cs u t q hi)(hl:cs'.length=cs.length)(h:∀j:Nat,(3≤j∧(j:Int)<p.base.a4+p.size.a4)∨(s≤j∧j<s+n)→cs'[j]? =cs[j]?)(hu:∀y∈cs',U32 y):
  DicAt p P s n cs' u t q hi:=by
 have hlo:=lo_ge D.ok;have htop:=D.top;have hbase:=D.base;have ha4:=D.a4;refine⟨D.ok,D.lays,D.n0,D.n1,?_,D.wf,D.base,D.top,D.a4,D.book,?_,D.apart,?_,D.used,hu,by rw[hl];exact D.len⟩
 ·have R:=D.rep;refine⟨by rw[hl];exact R.len,R.book,R.pos,fun j hj ej=>?_,fun j k a hj ej=>?_,R.lies,fun j k a hj ej=>?_,fun j k a hj ej jj c hc=>?_⟩
  ·rw[h _ (Or.inr (by omega))];exact R.void j hj ej
  ·rw[h _ (Or.inr (by omega))];exact R.slot j k a hj ej
  ·obtain⟨g1,g2,_,_⟩:=R.lies _ _ _ hj ej;rw[h _ (Or.inl (by omega))];exact R.size j k a hj ej
  ·obtain⟨g1,g2,_,_⟩:=R.lies _ _ _ hj ej;have hjl:jj<(packC k).length:=(List.getElem?_eq_some_iff.1 hc).1;rw[h _ (Or.inl (by omega))];exact R.key j k a hj ej jj c hc
 ·intro j g1 g2;rw[h _ (Or.inl (by omega))];exact D.zero j g1 g2
 ·intro j k a hj ej;obtain⟨g1,g2,_,_⟩:=D.rep.lies _ _ _ hj ej;rw[h _ (Or.inl (by omega))];exact D.tails _ _ _ hj ej
theorem fitsP_g {p:PlanM}{u m:V6}(h:fitsP p u m=true):∀k,k<6→m.g6 k≤p.size.g6 k-u.g6 k:=by
 unfold fitsP at h;simp only[Bool.and_eq_true,decide_eq_true_eq]at h;obtain⟨⟨⟨⟨⟨h0,h1⟩,h2⟩,h3⟩,h4⟩,h5⟩:=h;exact all_six h0.2.2.2 h1.2.2.2 h2.2.2.2 h3.2.2.2 h4.2.2.2 h5.2.2.2
theorem moreDocs_last {l:List SegM}{x:SegM}(h:l.getLast?=some x):(moreDocs l).getLast?=some { x with docs:=x.docs+1 }:=by
 unfold moreDocs;rw[h]
 simp
theorem moreDocs_mem {l:List SegM}{x y:SegM}(h:l.getLast?=some x)(hy:y∈moreDocs l):y∈l∨y={ x with docs:=x.docs+1 }:=by
 unfold moreDocs at hy;rw[h]at hy
 rcases List.mem_append.1 hy with g|g
 ·exact Or.inl ((List.dropLast_sublist l).subset g)
 ·exact Or.inr (by simpa using g)
theorem set_get {cs:List Int}{i j:Nat}{v:Int}(h:j≠i):(cs.set i v)[j]? =cs[j]? :=List.getElem?_set_ne (fun e=>h e.symm)
theorem Good.add (G:Good C P cs W live s t q hi)(id:Int)(hid:U32 id)(toks:List TokI)(hs:∀x∈toks,x.2.1.size≤16)(hn:toks.length≤64)(hv:W.ver+1≤4294967295):
  ∃W' er cs' c,AddWay C cs W live s id toks (termsP cs t C.plan.slots.toNat toks []) W' er cs'∧(addT C W live id toks).ideal cs=some ((W',er),cs',c)∧c<1048576∧(er≠0→W'=W∧cs'=cs)∧
   (er=0→∃t' q' hi',Good C P cs' W' { live with docs:=live.docs+1 } s t' q' hi'):=by
 obtain⟨ts1,ts2,ts3⟩:=plan_slots C G.ok;have hsn:=G.sn;obtain⟨b1,b2,b3⟩:=plan_base5 C G.ok;have hslot:=G.slot;have hd64:=G.docs64;have hbase:=G.base;have hroom:=G.room;have hclen:=G.clen;have hrl:=G.dic.rep.len;have hdl:=G.dic.len;have hld:=G.docs;have hbk0:=G.ok.k0;have hsz4:C.plan.size.a4=C.book:=rfl;obtain⟨c1,p1,p2⟩:=G.place id;obtain⟨c2,q1,q2⟩:=termsT_ideal G.dic.rep G.dic.n0 toks [] hs
 obtain⟨T,hcnt,hfr⟩:=terms_at (cs:=cs) (t:=t) (n:=C.plan.slots.toNat) hs;have hc2:c2≤229440:=by
  have:toks.length*(C.plan.slots.toNat*7+1)≤64*(512*7+1):=Nat.mul_le_mul hn (by omega)
  omega
 have hnd:=needsP_sum (p:=C.plan) hcnt 0 zero6;have hz6:zero6=zerosN:=rfl;rw[hz6,V6.zero_add,Int.zero_add]at hnd;unfold addT
 cases hp:(rplaceL cs id W.segs 0).2.2 with
 |true=>
  refine⟨W,6,cs,c1,.dup hp,?_,by omega,fun _=>⟨rfl,rfl⟩,fun h=>absurd h (by decide)⟩
  rw[Tree.ideal_bind,p2,Option.bind_some,if_pos hp]
  simp[Tree.ideal]
 |false=>
  by_cases hx:C.docs≤(live.docs:Int)
  ·refine⟨W,5,cs,c1,.seg hp hx,?_,by omega,fun _=>⟨rfl,rfl⟩,fun h=>absurd h (by decide)⟩
   rw[Tree.ideal_bind,p2,Option.bind_some,if_neg (by rw[hp];decide)]
   show Option.map _ ((if false=true∨C.docs≤(live.docs:Int)then _ else _:Tree (WrM×Int)).ideal cs)=_
   rw[if_pos (Or.inr hx)]
   simp[Tree.ideal]
  ·have pre:∀k:List TermM→Tree (WrM×Int),((Tree.off fun o=>if o=true∨C.docs≤(live.docs:Int)then .ret (W,5)else(termsT (live.base+4*C.docs) C.plan.slots.toNat toks []).bind k).ideal cs)=
     ((k (termsP cs t C.plan.slots.toNat toks [])).ideal cs).map fun z=>(z.1,z.2.1,z.2.2+c2):=fun k=>by
    show(if false=true∨C.docs≤(live.docs:Int)then _ else _:Tree (WrM×Int)).ideal cs=_
    rw[if_neg (by simp[hx]),Tree.ideal_bind,hslot,q2];rfl
   by_cases h1:C.terms-W.terms<(needsP C.plan (termsP cs t C.plan.slots.toNat toks []) 0 zero6).1
   ·refine⟨W,5,cs,c2+c1,.terms hp hx h1,?_,by omega,fun _=>⟨rfl,rfl⟩,fun h=>absurd h (by decide)⟩
    rw[Tree.ideal_bind,p2,Option.bind_some,if_neg (by rw[hp];decide),pre]
    show Option.map _ (Option.map _ ((if false=true then _ else if _ then _ else _:Tree (WrM×Int)).ideal cs))=_
    rw[if_neg (by decide),if_pos h1]
    simp[Tree.ideal]
   ·cases h2:fitsP C.plan W.used (needsP C.plan (termsP cs t C.plan.slots.toNat toks []) 0 zero6).2 with
    |false=>
     refine⟨W,3,cs,c2+c1,.full hp hx h1 h2,?_,by omega,fun _=>⟨rfl,rfl⟩,fun h=>absurd h (by decide)⟩
     rw[Tree.ideal_bind,p2,Option.bind_some,if_neg (by rw[hp];decide),pre]
     show Option.map _ (Option.map _ ((if false=true then _ else if _ then _ else _:Tree (WrM×Int)).ideal cs))=_
     rw[if_neg (by decide),if_neg h1,if_pos h2]
     simp[Tree.ideal]
    |true=>
     have hfit:=fitsP_g h2;have h1':=h1;rw[hz6,hnd]at h1';rw[hz6,hnd]at hfit;dsimp only at h1' hfit;have hterms:=G.terms;obtain⟨cs1,u',t',q',hi',all',w1,w2,w3,w4,w5,w6,⟨c3,w7,w8⟩,w9,w10⟩:=words_all (live.docs:Int) toks G.dic T (by omega) (fun k hk=>by rw[V6.addg];have:=hfit k hk;omega) (fun k hk=>(G.used k hk).1)
     obtain⟨qa,hqa⟩:∃qa:Nat,live.base+4*(live.docs:Int)=(qa:Int):=⟨(live.base+4*(live.docs:Int)).toNat,by omega⟩
     have hbk:=G.dic.book;have hq2:qa+2<cs1.length:=by omega
     have hc3:c3≤230656:=by
      have:toks.length*(C.plan.slots.toNat*7+20)≤64*(512*7+20):=Nat.mul_le_mul hn (by omega)
      omega
     refine⟨addW W (needsP C.plan (termsP cs t C.plan.slots.toNat toks []) 0 zero6).1 u',0,(layL cs1 qa id (toks.length:Int) (W.ver+1)).set 1 (W.ver+1),4+c3+c2+c1,.good cs1 u' qa hp hx h1 h2 w1 hqa hq2,?_,by omega,fun h=>absurd rfl h,fun _=>?_⟩
     ·rw[Tree.ideal_bind,p2,Option.bind_some,if_neg (by rw[hp];decide),pre]
      show Option.map _ (Option.map _ ((if false=true then _ else if _ then _ else if _ then _ else(wordsT C.plan (live.base+4*C.docs) C.plan.slots.toNat live.docs toks (termsP cs t C.plan.slots.toNat toks []) W.used).bind _:Tree (WrM×Int)).ideal cs))=_
      rw[if_neg (by decide),if_neg h1,if_neg (by rw[h2];decide),Tree.ideal_bind,hslot,w8,Option.bind_some]
      dsimp only;rw[lay_ideal hqa hq2 (by omega)]
      rfl
     ·have hll:((layL cs1 qa id (toks.length:Int) (W.ver+1)).set 1 (W.ver+1)).length=cs.length:=by
       unfold layL;simp only[List.length_set,w10]
      have hout:∀j:Nat,j≠1→j≠qa→j≠qa+1→j≠qa+2→((layL cs1 qa id (toks.length:Int) (W.ver+1)).set 1 (W.ver+1))[j]? =cs1[j]? :=by
       intro j e1 e2 e3 e4;unfold layL;rw[set_get e1,set_get e4,set_get e3,set_get e2]
      have hver:=G.ver;have hu32:∀y∈(layL cs1 qa id (toks.length:Int) (W.ver+1)).set 1 (W.ver+1),U32 y:=by
       unfold layL;have hu:U32 (W.ver+1):=by unfold U32;omega
       exact set_u32 (set_u32 (set_u32 (set_u32 w2.u32 hu _) hid _) (by unfold U32;omega) _) hu _
      refine⟨t',q',hi',G.ok,G.all,by rw[hll];exact hclen,w2.frame (by rw[hll,w10]) (fun j hj=>hout j (by omega) (by omega) (by omega) (by omega)) hu32,moreDocs_last G.last,G.raw,G.row,hroom,by dsimp only;omega,fun x hx2=>?_,?_,?_,?_,fun k hk=>?_,by show 0≤W.ver+1;omega⟩
      ·rw[hll]
       rcases moreDocs_mem G.last hx2 with g|rfl
       ·exact G.segs x g
       ·have hb9:SegM.base { live with docs:=live.docs+1 }=live.base:=rfl
        rw[hb9];dsimp only;refine⟨by omega,by omega,by omega,Or.inl (by omega)⟩
      ·show(moreDocs W.segs).length≤4096;obtain⟨k,hk,hk2⟩:=last_ix G.last;rw[←moreDocs_set hk hk2,List.length_set];exact G.nseg
      ·show W.terms+(needsP C.plan (termsP cs t C.plan.slots.toNat toks []) 0 zero6).1=_;rw[hz6,hnd];dsimp only
       omega
      ·show W.terms+(needsP C.plan (termsP cs t C.plan.slots.toNat toks []) 0 zero6).1≤_
       omega
      ·have e1:=w5 k hk;have e2:=w6 k hk;rw[V6.addg]at e2;have e3:=hfit k hk;exact⟨e1,by show u'.g6 k≤_;omega⟩
end
end Go.Proofs.YtogdknnkhkjmcaaGreatDoor
