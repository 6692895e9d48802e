/- Layer 11: table.Seen. -/
import Derived.Test.YtogdknnkhkjmcaaGreatDoorJNeed
namespace Go.Proofs.YtogdknnkhkjmcaaGreatDoor
open Go.RowKit
set_option linter.all false
theorem RM.append {w w1:World}{K:Nat→Prop}{v v':Value}{r m c:Nat}{s:St}(h:RM w (fun b=>K b∨v.ownBlock=some b) r m c s)(hg:w.grownBy w1 v.ownBlock)
  (hf:v'.ownBlock=v.ownBlock∨∃b,v'.ownBlock=some b∧w.heap.size≤b) (hlt:∀b,v'.ownBlock=some b→b<w1.heap.size):
  RM w1 (fun b=>K b∨v'.ownBlock=some b) r m c s:=by
 have hl:=h.lts;have hk:Keeps (fun b=>b<w.heap.size∧some b≠v.ownBlock) w w1:=⟨hg.os,hg.tape,hg.output,hg.size,fun b hb=>hg.block b hb.1 hb.2⟩;have h1:=h.keep _ hk (fun b hb hn=>⟨hb,fun e=>hn (Or.inr e.symm)⟩);obtain⟨g,hr,ho⟩:=h1.run;obtain⟨g0,hr0,ho0⟩:=h.run;have e:g=g0:=by
  have a:=hr.obj.inj (hr0.obj.keep hk ⟨hl.1,fun e=>h.kr (Or.inr e.symm)⟩);simp only[List.cons.injEq]at a;exact a.2.1
 subst e;have key:∀b,b<w.heap.size→¬(K b∨v.ownBlock=some b)→¬(K b∨v'.ownBlock=some b):=by
  rintro b hb hn (e|e)
  ·exact hn (Or.inl e)
  ·rcases hf with h2|⟨b',h2,h3⟩
   ·exact hn (Or.inr (h2▸e))
   ·rw[h2]at e;injection e with e;omega
 refine⟨⟨g,hr,fun k hk'=>⟨(ho k hk').1,(ho k hk').2.1,(ho k hk').2.2.1,key k (own_ne hr0.log k hk') (ho k hk').2.2.2⟩⟩,h1.mem,h.rm,h.rc,key _ hl.1 h.kr,key _ hl.2.1 h.km,key _ hl.2.2 h.kc,?_⟩;rintro b (e|e)
 ·have:=h.lt b (Or.inl e);have:=hk.size;omega
 ·exact hlt b e
theorem keeps_append {w w1:World}{K:Nat→Prop}{v:Value}(hK:∀b,K b→b<w.heap.size)(hn:∀b,v.ownBlock=some b→¬K b)(hg:w.grownBy w1 v.ownBlock):Keeps K w w1:=
 ⟨hg.os,hg.tape,hg.output,hg.size,fun b hb=>hg.block b (hK b hb) (fun e=>hn b e.symm hb)⟩
structure RowM where
 birth:Int
 id:Int
 len:Int
 tomb:Int
def rowT (b d:Int):Tree RowM:= .load (b+4*d+0) fun x0=> .load (b+4*d+1) fun x1=> .load (b+4*d+2) fun x2=> .load (b+4*d+3) fun x3=> .ret ⟨x0,x1,x2,x3⟩
def RowM.vals (x:RowM):List Value:=[.int .u32 x.birth,.int .u32 x.id,.int .u32 x.len,.int .u32 x.tomb]
theorem rowT_exec {b d:Int}{s s0 s1 s2 s3:St}{x0 x1 x2 x3:Int}(e0:s.load (b+4*d+0)=(x0,s0))(e1:s0.load (b+4*d+1)=(x1,s1))(e2:s1.load (b+4*d+2)=(x2,s2))(e3:s2.load (b+4*d+3)=(x3,s3)):
  (rowT b d).exec s=(⟨x0,x1,x2,x3⟩,s3):=by
 have e:(rowT b d).exec s=(⟨(s.load (b+4*d+0)).1,((s.load (b+4*d+0)).2.load (b+4*d+1)).1,(((s.load (b+4*d+0)).2.load (b+4*d+1)).2.load (b+4*d+2)).1,((((s.load (b+4*d+0)).2.load (b+4*d+1)).2.load (b+4*d+2)).2.load (b+4*d+3)).1⟩,((((s.load (b+4*d+0)).2.load (b+4*d+1)).2.load (b+4*d+2)).2.load (b+4*d+3)).2):=rfl
 rw[e,e0,e1,e2,e3]
set_option maxHeartbeats 400000 in
theorem table_row {w:World}{K:Nat→Prop}{r m c:Nat}{s:St}(h:RM w K r m c s)(b d:Int)(hb:Small b)(hd:Small d):
  Calls Tryz.prog 46 #[.pointer (some ⟨r,0,none⟩),I b,I d] w fun e w'=>
   e= .returned (.agg ((rowT b d).exec s).1.vals.toArray)∧RM w' K r m c ((rowT b d).exec s).2∧Keeps K w w':=by
 obtain⟨b0,b1⟩:=hb;obtain⟨d0,d1⟩:=hd;have H:=hid (h.more (.cells #[J 0,J 0,J 0,J 0] 113));have HB:=hid (Blk.new w [J 0,J 0,J 0,J 0] 113);have K0:=hid ((Keeps.refl K w).alloc h.lt (.cells #[J 0,J 0,J 0,J 0] 113));have hpn:¬K w.heap.size:=fun e=>Nat.lt_irrefl _ (h.lt _ e);generalize hres:(rowT b d).exec s=res;have HRes:=hid hres;clear hres h;refine calls_hide fun R' hR'=>?_
 go_enter Tryz.func46,Tryz.ntmps46
 go_wp2_with fail
 generalize hw0:w.alloc (.cells #[J 0,J 0,J 0,J 0] 113)=w0 at*;generalize hp:w.heap.size=p at*;clear hw0 hp;have HPN:=hid hpn;clear hpn;refine(step_load H.out _).mono ?_;rintro e w1 ⟨rfl,h1,k1⟩;generalize hls:s.load (b+4*d)=ls at*;obtain⟨x0,s0⟩:=ls;have HL0:=hid hls;clear hls;simp only at h1;have hb1:=HB.out.keep k1 (Or.inr rfl);have H1:=hid h1;have HB1:=hid hb1
 have K1:=hid (K0.out.trans (k1.mono fun b hb=>Or.inl hb));clear h1 k1 hb1
 go_wp2_with fail
 refine(step_load H1.out _).mono ?_;rintro e w2 ⟨rfl,h2,k2⟩;generalize hls:s0.load (b+4*d+1)=ls at*;obtain⟨x1,s1⟩:=ls;have HL1:=hid hls;clear hls;simp only at h2;have hb2:=HB1.out.keep k2 (Or.inr rfl);have H2:=hid h2;have HB2:=hid hb2;have K2:=hid (K1.out.trans (k2.mono fun b hb=>Or.inl hb));clear h2 k2 hb2
 go_wp2_with fail
 refine(step_load H2.out _).mono ?_;rintro e w3 ⟨rfl,h3,k3⟩;generalize hls:s1.load (b+4*d+2)=ls at*;obtain⟨x2,s2⟩:=ls;have HL2:=hid hls;clear hls;simp only at h3;have hb3:=HB2.out.keep k3 (Or.inr rfl);have H3:=hid h3;have HB3:=hid hb3;have K3:=hid (K2.out.trans (k3.mono fun b hb=>Or.inl hb));clear h3 k3 hb3
 go_wp2_with fail
 refine(step_load H3.out _).mono ?_;rintro e w4 ⟨rfl,h4,k4⟩;generalize hls:s2.load (b+4*d+3)=ls at*;obtain⟨x3,s3⟩:=ls;have HL3:=hid hls;clear hls;simp only at h4;have hb4:=HB3.out.keep k4 (Or.inr rfl);have c0:=hb4.cell 0;have c1:=hb4.cell 1;have c2:=hb4.cell 2;have c3:=hb4.cell 3;have fz:=hb4.free;simp only[List.getElem?_cons_zero,List.getElem?_cons_succ]at c0 c1 c2 c3
 have H4:=hid h4;have HB4:=hid hb4;have K4:=hid (K3.out.trans (k4.mono fun b hb=>Or.inl hb));clear h4 k4 hb4
 go_wp2
 have hex:(rowT b d).exec s=(⟨x0,x1,x2,x3⟩,s3):=rowT_exec (by rw[Int.add_zero];exact HL0.out) HL1.out HL2.out HL3.out
 refine bodyPost_ret (v:= .agg #[J x0,J x1,J x2,J x3]) (by simp[results,Tryz.results46,go_sem,c0,c1,c2,c3]) rfl (hR'.out _ _ ⟨?_,?_,?_⟩)
 ·rw[←HRes.out,hex];rfl
 ·rw[←HRes.out,hex];exact((((H4.out.setK (a:=⟨p,0,none⟩) (Or.inr rfl) _).setK (a:=⟨p,1,none⟩) (Or.inr rfl) _).setK (a:=⟨p,2,none⟩) (Or.inr rfl) _).setK (a:=⟨p,3,none⟩) (Or.inr rfl) _).mono fun b hb=>Or.inl hb
 ·exact(((K4.out.setCell HPN.out _).setCell HPN.out _).setCell HPN.out _).setCell HPN.out _
structure SegM where
 addr:Int
 docs:Nat
 sealed:Bool
def SegM.cells (x:SegM):List Value:=[.int .i64 x.addr,.int .i64 x.docs,.bool x.sealed]
def SegM.base (x:SegM):Int:=if x.sealed then x.addr+2 else x.addr+1
structure WrM where
 segs:List SegM
 terms:Int
 ver:Int
 used:V6
def WrM.vals (x:WrM)(v:Value):List Value:=[v,.int .i64 x.terms,.int .u32 x.ver,.int .i64 x.used.a0,.int .i64 x.used.a1,.int .i64 x.used.a2,.int .i64 x.used.a3,.int .i64 x.used.a4,.int .i64 x.used.a5]
def zero6:V6:=⟨0,0,0,0,0,0⟩
def V6.sum (u v:V6):V6:=⟨u.a0+v.a0,u.a1+v.a1,u.a2+v.a2,u.a3+v.a3,u.a4+v.a4,u.a5+v.a5⟩
abbrev TokI:Type:=Int×ByteArray×Int
def tokI (t:TokI):List Value:=[.int .u8 t.1,.string t.2.1,.int .i64 t.2.2]
def keyB (f:Int)(t:ByteArray):ByteArray:=⟨#[UInt8.ofNat f.toNat]⟩++t
structure TermM where
 key:ByteArray
 recd:Int
 tl:Int
 cnt:Int
def TermM.cells (t:TermM):List Value:=[.string t.key,.int .i64 t.recd,.int .i64 t.tl,.int .i64 t.cnt]
def keyIx (key:ByteArray)(l:List TermM):Nat:=l.findIdx fun t=>t.key.toList==key.toList
def placeT (id:Int):List SegM→Nat→Tree (Int×Int×Bool)
 | [],_=> .ret (0,0,false)
 |x::l,i=>(findT x.base id x.docs 0).bind fun d=>if 0≤d then .ret ((i:Int),d,true)else placeT id l (i+1)
def findK (s:Int)(n:Nat)(key:ByteArray):Tree (Int×Int):=findD s n (homeD n (bsL key)) (packC (bsL key)) key.size n 0
def lookT (s:Int)(n:Nat)(key:ByteArray):Tree TermM:=(findK s n key).bind fun q=>if q.1=0 then .ret ⟨key,0,0,1⟩else .load q.1 fun t=> .ret ⟨key,q.1,t,1⟩
def termsT (s:Int)(n:Nat):List TokI→List TermM→Tree (List TermM)
 | [],out=> .ret out
 |x::l,out=>
  match out[keyIx (keyB x.1 x.2.1) out]? with
  |some t=>termsT s n l (out.set (keyIx (keyB x.1 x.2.1) out) { t with cnt:=t.cnt+1 })
  |none=>(lookT s n (keyB x.1 x.2.1)).bind fun t=>termsT s n l (out++[t])
def needsP (p:PlanM):List TermM→Int→V6→Int×V6
 | [],fr,more=>(fr,more)
 |t::l,fr,more=>
  if t.recd=0 then needsP p l (fr+1) ({ more with a4:=more.a4+(2+(((t.key.size+3)/4:Nat):Int)) }.sum (p.need t.tl t.cnt))
  else needsP p l fr (more.sum (p.need t.tl t.cnt))
def fitsP (p:PlanM)(u m:V6):Bool:=
 decide (0≤u.a0∧0≤m.a0∧u.a0≤p.size.a0∧m.a0≤p.size.a0-u.a0)&&decide (0≤u.a1∧0≤m.a1∧u.a1≤p.size.a1∧m.a1≤p.size.a1-u.a1)&&
 decide (0≤u.a2∧0≤m.a2∧u.a2≤p.size.a2∧m.a2≤p.size.a2-u.a2)&&decide (0≤u.a3∧0≤m.a3∧u.a3≤p.size.a3∧m.a3≤p.size.a3-u.a3)&&
 decide (0≤u.a4∧0≤m.a4∧u.a4≤p.size.a4∧m.a4≤p.size.a4-u.a4)&&decide (0≤u.a5∧0≤m.a5∧u.a5≤p.size.a5∧m.a5≤p.size.a5-u.a5)
def wordOf (d pos:Int):Int:=if d<0∨65535<d∨pos<0∨65535<pos then 0 else 65536*d+pos
def dictPutT (p:PlanM)(u:V6)(s0 sl:Int)(key:ByteArray):Tree (Int×V6):=
 if p.size.a4<u.a4+(2+(((key.size+3)/4:Nat):Int))then .ret (0,zero6)
 else(putD (p.base.a4+u.a4) (s0+sl) key.size (packC (bsL key))).bind fun _=> .ret (p.base.a4+u.a4,{ u with a4:=u.a4+(2+(((key.size+3)/4:Nat):Int)) })
def postPutT (p:PlanM)(u:V6)(t v:Int):Tree (Int×V6):=
 if(p.next t).2=false then .ret (0,zero6)
 else if(p.next t).1<0 then(putIn t v).bind fun _=> .ret (t+1,u)
 else if p.sK (p.next t).1.toNat<u.uK (p.next t).1.toNat+szK (p.next t).1.toNat then .ret (0,zero6)
 else(putNew t (p.bK (p.next t).1.toNat+u.uK (p.next t).1.toNat) v).bind fun _=> .ret (p.bK (p.next t).1.toNat+u.uK (p.next t).1.toNat+1,u.up (p.next t).1.toNat (szK (p.next t).1.toNat))
def recT (p:PlanM)(s:Int)(n:Nat)(t:TermM)(u:V6):Tree (Int×V6):=if t.recd=0 then(findK s n t.key).bind fun q=>dictPutT p u s q.2 t.key else .ret (t.recd,u)
def wordT (p:PlanM)(s:Int)(n:Nat)(d:Int)(x:TokI)(all:List TermM)(u:V6):Tree (List TermM×V6):=
 match all[keyIx (keyB x.1 x.2.1) all]? with
 |none=> .ret (all,u)
 |some t=>(recT p s n t u).bind fun q=>(postPutT p q.2 t.tl (wordOf d x.2.2)).bind fun y=> .store q.1 y.1 (.ret (all.set (keyIx (keyB x.1 x.2.1) all) ⟨t.key,q.1,y.1,t.cnt⟩,y.2))
def wordsT (p:PlanM)(s:Int)(n:Nat)(d:Int):List TokI→List TermM→V6→Tree (List TermM×V6)
 | [],all,u=> .ret (all,u)
 |x::l,all,u=>(wordT p s n d x all u).bind fun y=>wordsT p s n d l y.1 y.2
def moreDocs (l:List SegM):List SegM:=l.dropLast++(match l.getLast? with|none=>[]|some x=>[{ x with docs:=x.docs+1 }])
def addT (c:ConfM)(W:WrM)(live:SegM)(id:Int)(toks:List TokI):Tree (WrM×Int):=
 (placeT id W.segs 0).bind fun q=>if q.2.2=true then .ret (W,6)else
 .off fun o=>if o=true∨c.docs≤(live.docs:Int)then .ret (W,5)else
 (termsT (live.base+4*c.docs) c.plan.slots.toNat toks []).bind fun all=>
 .off fun o2=>if o2=true then .ret (W,0)else
 if c.terms-W.terms<(needsP c.plan all 0 zero6).1 then .ret (W,5)else
 if fitsP c.plan W.used (needsP c.plan all 0 zero6).2=false then .ret (W,3)else
 (wordsT c.plan (live.base+4*c.docs) c.plan.slots.toNat live.docs toks all W.used).bind fun y=>
 (layT live.base live.docs id toks.length (W.ver+1)).bind fun _=>
 .store 1 (W.ver+1) (.ret (⟨moreDocs W.segs,W.terms+(needsP c.plan all 0 zero6).1,W.ver+1,y.2⟩,0))
def delT (W:WrM)(id:Int):Tree (WrM×Int):=
 (placeT id W.segs 0).bind fun q=>if q.2.2=false then .ret (W,7)else
 match W.segs[q.1.toNat]? with
 |none=> .ret (W,7)
 |some x=>(rowT x.base q.2.1).bind fun row=> .off fun o=>if o=true∨row.tomb≠0 then .ret (W,7)else
  (killT x.base q.2.1 (W.ver+1)).bind fun _=> .store 1 (W.ver+1) (.ret ({ W with ver:=W.ver+1 },0))
def atL (cs:List Int)(a:Int):Int×Bool:=if 0≤a∧a<cs.length then(cs.getD a.toNat 0,true)else(0,false)
set_option maxHeartbeats 1000000 in
theorem ref10_at (cs:List Int)(a:Int)(A:Option Addr)(cp:Nat)(w:World)(K:Nat→Prop)(hsl:SlAt w K 1 (.slice A cs.length cp) cs.length (cs.map (Value.int .u32)))(hn:cs.length≤65536):
  Calls Tryz.prog 39 #[.slice A cs.length cp,I a] w fun e w'=>e= .returned (.tuple #[J (atL cs a).1,.bool (atL cs a).2])∧w'=w:=by
 by_cases h0:a<0
 ·have hr:atL cs a=(0,false):=by unfold atL;rw[if_neg (by omega)]
  rw[hr];have g0:decide (a<0)=true:=decide_eq_true h0;exact c456
 have g0:decide (a<0)=false:=decide_eq_false h0
 by_cases h1:(cs.length:Int)≤a
 ·have hr:atL cs a=(0,false):=by unfold atL;rw[if_neg (by omega)]
  rw[hr];have g1:decide ((cs.length:Int)≤a)=true:=decide_eq_true h1;exact c456
 have g1:decide ((cs.length:Int)≤a)=false:=decide_eq_false h1;obtain⟨i,rfl⟩:=Int.eq_ofNat_of_zero_le (by omega:0≤a)
 have hlt:i<cs.length:=by omega
 have hltI:(i:Int)<(cs.length:Int):=by omega
 obtain⟨x,hx⟩:∃x,cs[i]? =some x:=⟨_,List.getElem?_eq_getElem hlt⟩;obtain⟨b,off,c9,hv,hb,hc⟩:=hsl.get i x hx;injection hv with e1 e2 e3
 subst e1 e3;have hr:atL cs i=(x,true):=by
  unfold atL;rw[if_pos ⟨by omega,hltI⟩,Int.toNat_natCast,List.getD_eq_getElem?_getD,hx];rfl
 rw[hr];clear hx hr hsl hb;exact c456
set_option maxRecDepth 100000 in
set_option maxHeartbeats 1000000 in
theorem ref01_copy (cs:List Int)(A:Option Addr)(cp:Nat)(w:World)(K:Nat→Prop)(hb:∀b,K b→b<w.heap.size)(hsl:SlAt w K 1 (.slice A cs.length cp) cs.length (cs.map (Value.int .u32)))(hn0:0<cs.length)(hn:cs.length≤65536):
  Calls Tryz.prog 86 #[.slice A cs.length cp] w fun e w'=>
   e= .returned (.slice (some ⟨w.heap.size,0,none⟩) cs.length cs.length)∧Blk w' w.heap.size (cs.map (Value.int .u32))∧Keeps (· <w.heap.size) w w':=by
 obtain⟨A',cap,h1,h2,h3,h4,h5⟩:=hsl;obtain⟨b,off,rfl,hkb,hc⟩:=h5 hn0;injection h1 with h1 _ h2'
 subst h1 h2';have hbl:=hb b hkb;have hmk:=fun w=>run_make_row' (P:=Tryz.prog) 47 32 (J 0) 4 Tryz.underlying47 Tryz.infoU rfl .i64 .i64 cs.length (by omega) (by omega) w
 have hcw:∀(j:Nat) (u:Value),(cs.map (Value.int .u32))[j]? =some u→(w.alloc (.cells (madeCells #[J 0] cs.length) 32)).cell? ⟨b,off+j,none⟩=some u:=fun j u hu=>
  (World.cell?_of_block (a:=⟨b,off+j,none⟩) (((Keeps.refl (· <w.heap.size) w).alloc (fun b hb=>hb) _).block b hbl)).trans (hc j u hu)
 have hhg:(w.alloc (.cells (madeCells #[J 0] cs.length) 32)).heap[w.heap.size]? =some (.cells (List.replicate cs.length (J 0)).toArray 32 (0,0)):=by
  have e:madeCells #[J 0] cs.length=(List.replicate cs.length (J 0)).toArray:=by
   apply Array.ext';rw[toList_madeCells_one]
  rw[e];exact heap_alloc_new w _
 have HG:=hid hhg;have HC:=hid hcw;have HN:=hid (show(cs.map (Value.int .u32)).length=cs.length from List.length_map ..)
 have HCw:=hid hc;clear hcw hhg h5 hc h4 h2 h3 hkb hb;refine calls_hide fun R' hR'=>?_
 go_enter Tryz.func86,Tryz.ntmps86
 go_wp2_with (with_reducible refine wpList_copy_splice rfl (.tmp 7) (.tmp 8) 47 47 rfl 32 Tryz.underlying47 Tryz.sizeU _ _ _ _ _ _ rfl rfl w.heap.size 0 (List.replicate cs.length (J 0)) 32 HG.out (cs.map (Value.int .u32)) ?hn ?hpos ?hfit ?h1 w.heap.size w ?hb (Nat.le_refl _) ?_)
 case hpos=>intro j x hj;exact HCw.out j _ (by rw[List.getElem?_map,hj];rfl)
 case h1=>intro u hu;rfl
 case hb=>exact(Below.refl _ _).alloc (Nat.le_refl _) _
 exact c136
end Go.Proofs.YtogdknnkhkjmcaaGreatDoor
