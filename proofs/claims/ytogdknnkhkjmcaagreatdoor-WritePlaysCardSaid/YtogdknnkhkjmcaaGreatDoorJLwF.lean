/- Layer 12's statements: light, great; a call on a good state. -/
import Derived.Test.YtogdknnkhkjmcaaGreatDoorLwE
namespace Go.Proofs.YtogdknnkhkjmcaaGreatDoor
open Go.RowKit
set_option linter.all false
structure OpV where
 del:Bool
 id:Int
 A:Option Addr
 c:Nat
 fs:List ByteArray
def OpV.cells (o:OpV):List Value:=[.bool o.del,.int .u32 o.id,.slice o.A o.fs.length o.c]
structure OpV.ok (w:World)(K:Nat→Prop)(o:OpV):Prop where
 sl:SlAt w K 1 (.slice o.A o.fs.length o.c) o.fs.length (o.fs.map Value.string)
 id:U32 o.id
 sz:∀x∈o.fs,x.size≤140737488355328
theorem OpV.ok.keep {w w':World}{K L:Nat→Prop}{o:OpV}(h:o.ok w K)(k:Keeps L w w')(hL:∀b,K b→L b):o.ok w' K:=⟨h.sl.keep k hL,h.id,h.sz⟩
set_option maxHeartbeats 1000000 in
theorem law_great (o:OpV)(w:World)(K:Nat→Prop)(hb:∀b,K b→b<w.heap.size)(ho:o.ok w K):
  Calls Tryz.prog 12 #[.agg o.cells.toArray] w fun e w'=>∃b,e= .returned (.bool b)∧(b=false→o.fs.length≤3000)∧Keeps (· <w.heap.size) w w':=by
 obtain⟨del,id,A,c,fs⟩:=o;obtain⟨h1,h2,h3⟩:=ho;dsimp only at h1 h2 h3;have H1:=hid h1;have H3:=hid h3;have Hb:=hid hb;obtain⟨A',cap,e1,e2,e3,e4,e5⟩:=h1;injection e1 with e1 _ e1c
 subst e1 e1c;unfold maxLen at e3;have H5:=hid e5;clear h2 h3 hb e4 e5;unfold OpV.cells;dsimp only;refine calls_hide fun R' hR'=>?_
 go_enter Tryz.func12,Tryz.ntmps12
 go_wp2_with fail
 go_loopw[3,10] (fun nv iv wx=>∃(n i:Nat),nv=I (n:Int)∧iv=I (i:Int)∧i≤fs.length∧i≤n∧n≤3000∧Hid (Keeps (· <w.heap.size) w wx)) (fun _ iv _=>fs.length-(intOf iv).toNat)
 case atStart=>exact⟨0,0,rfl,rfl,Nat.zero_le _,Nat.le_refl _,by decide,hid ((Keeps.refl _ _).alloc (fun b hb=>hb) _)⟩
 case round=>
  obtain⟨n,i,rfl,rfl,hi,hin,hn,HK⟩:=hrel
  by_cases hlt:i<fs.length
  ·have hltI:(i:Int)<(fs.length:Int):=by omega
   obtain⟨b,off,rfl,hkb,hc⟩:=H5.out (by omega)
   have a0:=(World.cell?_of_block (a:=⟨b,off+i,none⟩) (HK.out.block b (Hb.out b hkb))).trans (hc i (.string fs[i]) (by rw[List.getElem?_map,List.getElem?_eq_getElem hlt];rfl))
   have hsz:=H3.out fs[i] (List.getElem_mem hlt);generalize fs[i]=x at*;clear hc;have hw1:IntKind.i64.wrap (1+(x.size:Int))=1+(x.size:Int):=IntWalk.i64_in _ (by omega)
   have hw2:IntKind.i64.wrap ((n:Int)+(1+(x.size:Int)))=(n:Int)+(1+(x.size:Int)):=IntWalk.i64_in _ (by omega)
   by_cases hg:n+(1+x.size)>3000
   ·have hg1:decide ((n:Int)+(1+(x.size:Int))>3000)=true:=decide_eq_true (by omega)
    have hg2:decide ((3000:Int)<(n:Int)+(1+(x.size:Int)))=true:=decide_eq_true (by omega)
    go_wp2_with fail
    exact hR'.out _ _ ⟨true,rfl,fun h=>Bool.noConfusion h,HK.out⟩
   ·have hg1:decide ((n:Int)+(1+(x.size:Int))>3000)=false:=decide_eq_false (by omega)
    have hg2:decide ((3000:Int)<(n:Int)+(1+(x.size:Int)))=false:=decide_eq_false (by omega)
    go_wp2_with fail
    go_roundw
    case rel=>exact⟨n+(1+x.size),i+1,by first|rfl|(congr 1;omega)|go_num,by go_num,by omega,by omega,by omega,HK⟩
    case measure=>exact msA
  ·obtain rfl:i=fs.length:=by omega
   have hltI:¬(fs.length:Int)<(fs.length:Int):=by omega
   go_wp2_with fail
   exact hR'.out _ _ ⟨false,rfl,fun _=>by show fs.length≤3000;omega,HK.out⟩
theorem opv_at:∀(l:List OpV) (k:Nat) (x:OpV),l[k]? =some x→(l.flatMap OpV.cells)[k*3+0]? =some (.bool x.del)∧(l.flatMap OpV.cells)[k*3+1]? =some (J x.id)∧(l.flatMap OpV.cells)[k*3+2]? =some (.slice x.A x.fs.length x.c)
 |y::l,0,x,h=>by
  simp at h;subst h;exact⟨rfl,rfl,rfl⟩
 |y::l,k+1,x,h=>by
  have ih:=opv_at l k x (by simpa using h)
  have e1:(k+1)*3=k*3+3:=by omega
  rw[e1];exact ih
set_option maxHeartbeats 2000000 in
theorem law_light (ops:List OpV)(A:Option Addr)(c:Nat)(w:World)(K:Nat→Prop)(hb:∀b,K b→b<w.heap.size)(hsl:SlAt w K 3 (.slice A ops.length c) ops.length (ops.flatMap OpV.cells))(ho:∀o∈ops,o.ok w K):
  Calls Tryz.prog 11 #[.slice A ops.length c] w fun e w'=>(∃k c',k≤ops.length∧e= .returned (.slice A k c'))∧Keeps (· <w.heap.size) w w':=by
 have H0:=hid ho;have Hb:=hid hb;obtain⟨A',cap,e1,e2,e3,e4,e5⟩:=hsl;injection e1 with e1 _ e1c
 subst e1 e1c;unfold maxLen at e3;have H5:=hid e5;clear ho hb e4 e5;refine calls_hide fun R' hR'=>?_
 go_enter Tryz.func11,Tryz.ntmps11
 go_wp2_with fail
 go_loopw[3,10] (fun nv iv wx=>∃(n i:Nat),nv=I (n:Int)∧iv=I (i:Int)∧i≤ops.length∧n≤2500∧Hid (Keeps (· <w.heap.size) w wx)) (fun _ iv _=>ops.length-(intOf iv).toNat)
 case atStart=>exact⟨0,0,rfl,rfl,Nat.zero_le _,by decide,hid (Keeps.refl _ _)⟩
 case round=>
  obtain⟨n,i,rfl,rfl,hi,hn,HK⟩:=hrel
  by_cases hlt:i<ops.length
  ·have hltI:(i:Int)<(ops.length:Int):=by omega
   obtain⟨b,off,rfl,hkb,hc⟩:=H5.out (by omega)
   obtain⟨o,ho⟩:∃o,ops[i]? =some o:=⟨_,List.getElem?_eq_getElem hlt⟩;obtain⟨p0,p1,p2⟩:=opv_at ops i o ho;have hbl:=HK.out.block b (Hb.out b hkb);have zz54:=@c327;exact c326
  ·obtain rfl:i=ops.length:=by omega
   have hltI:¬(ops.length:Int)<(ops.length:Int):=by omega
   go_wp2_with fail
   exact hR'.out _ _ ⟨⟨_,_,Nat.le_refl _,rfl⟩,HK.out⟩
def DoTo (C:ConfM)(cs:List Int)(W:WrM)(live:SegM)(s:Nat)(t:Tab)(del:Bool)(id:Int)(fs:List ByteArray)(W':WrM)(er:Int)(cs':List Int):Prop:=
 if del=true then rdelL ⟨cs,W⟩ id=(er,⟨cs',W'⟩)else match toksM fs with|none=>er=4∧W'=W∧cs'=cs|some toks=>AddWay C cs W live s id toks (termsP cs t C.plan.slots.toNat toks []) W' er cs'
theorem Good.op {C:ConfM}{P:Pools}{cs:List Int}{W:WrM}{live:SegM}{s:Nat}{t:Tab}{q:Nat→Nat}{hi:Nat}(G:Good C P cs W live s t q hi)(del:Bool)(id:Int)(fs:List ByteArray)(hid:U32 id)(hv:W.ver+1≤4294967295):
  ∃W' er cs' n,(opT C W live ⟨del,id,fs⟩).ideal cs=some ((W',er),cs',n)∧n<1048576∧(0≤er∧er≤7)∧(er≠0→W'=W∧cs'=cs)∧(W'.segs.length≤65536∧cs'.length≤maxLen)∧DoTo C cs W live s t del id fs W' er cs'∧W'.ver≤W.ver+1∧
   (∃live' t' q' hi',Good C P cs' W' live' s t' q' hi'):=by
 have fin:∀{cs':List Int} {W':WrM} {live':SegM} {t':Tab} {q':Nat→Nat} {hi':Nat},Good C P cs' W' live' s t' q' hi'→W'.segs.length≤65536∧cs'.length≤maxLen:=fun G'=>by
  have h1:=G'.nseg;have h2:=G'.dic.len;exact⟨by omega,by unfold maxLen;omega⟩
 unfold DoTo
 cases del with
 |true=>
  obtain⟨W',er,cs',n,h1,h2,h3,h4,h5,h6⟩:=G.del id hv;refine⟨W',er,cs',n,?_,h3,by omega,h4,fin h6,by rw[if_pos rfl];exact h1,?_,_,_,_,_,h6⟩
  ·unfold opT;rw[if_pos rfl];exact h2
  ·unfold rdelL at h1;dsimp only at h1
   split at h1
   ·injection h1 with _ e;injection e with _ e;rw[←e];omega
   ·split at h1
    ·injection h1 with _ e;injection e with _ e;rw[←e];omega
    ·split at h1
     ·injection h1 with _ e;injection e with _ e;rw[←e];omega
     ·injection h1 with _ e;injection e with _ e;rw[←e];exact Int.le_refl _
 |false=>
  cases htk:toksM fs with
  |none=>
   refine⟨W,4,cs,0,?_,by decide,⟨by decide,by decide⟩,fun _=>⟨rfl,rfl⟩,fin G,?_,by omega,_,_,_,_,G⟩
   ·unfold opT;dsimp only;rw[if_neg Bool.false_ne_true,htk];rfl
   ·rw[if_neg Bool.false_ne_true];exact⟨rfl,rfl,rfl⟩
  |some toks=>
   have hsm:=toksM_small htk;obtain⟨W',er,cs',n,h1,h2,h3,h4,h5⟩:=G.add id hid toks (fun x hx=>(hsm.1 x hx).2) hsm.2 hv;have her:(0≤er∧er≤7)∧W'.ver≤W.ver+1:=by
    cases h1 with
    |dup=>exact⟨⟨by decide,by decide⟩,by omega⟩
    |seg=>exact⟨⟨by decide,by decide⟩,by omega⟩
    |terms=>exact⟨⟨by decide,by decide⟩,by omega⟩
    |full=>exact⟨⟨by decide,by decide⟩,by omega⟩
    |good=>exact⟨⟨by decide,by decide⟩,Int.le_refl _⟩
   have hG:∃live' t' q' hi',Good C P cs' W' live' s t' q' hi':=by
    by_cases h0:er=0
    ·obtain⟨t',q',hi',g⟩:=h5 h0;exact⟨_,_,_,_,g⟩
    ·obtain⟨e1,e2⟩:=h4 h0;subst e1 e2;exact⟨_,_,_,_,G⟩
   obtain⟨live',t',q',hi',g⟩:=hG;refine⟨W',er,cs',n,?_,h3,her.1,h4,fin g,by rw[if_neg Bool.false_ne_true];exact h1,her.2,_,_,_,_,g⟩
   unfold opT;dsimp only;rw[if_neg Bool.false_ne_true,htk];exact h2
theorem do_good {w0 w:World}{K:Nat→Prop}{X m c:Nat}{C:ConfM}{P:Pools}{cs:List Int}{W:WrM}{st:Int}{live:SegM}{s0:Nat}{t0:Tab}{q0:Nat→Nat}{hi0:Nat}(hw:Wd w0 w K X m c C cs W st)(G:Good C P cs W live s0 t0 q0 hi0)(hT:PTab w0)(hF:FoldTab w0)
  (o:OpV) (ho:o.ok w K) (hfn:o.fs.length≤1000000) (hv:W.ver+1≤4294967294):∃W' er cs',(∃n,(opT C W live ⟨o.del,o.id,o.fs⟩).ideal cs=some ((W',er),cs',n))∧DoTo C cs W live s0 t0 o.del o.id o.fs W' er cs'∧(0≤er∧er≤7)∧(er≠0→W'=W∧cs'=cs)∧W'.ver≤W.ver+1∧(∃live' t' q' hi',Good C P cs' W' live' s0 t' q' hi')∧
   Calls Tryz.prog 13 #[.pointer (some ⟨X,0,none⟩),.agg o.cells.toArray] w fun e w'=>
    e= .returned (.bool true)∧(∃st',Wd w0 w' (fun b=>K b∨(w.heap.size≤b∧b<w'.heap.size)) X m c C cs' W' st'∧((opT C W live ⟨o.del,o.id,o.fs⟩).wr cs=0→st'=st))∧Keeps (fun b=>b<w.heap.size∧b≠X∧b≠m∧b≠c) w w':=by
 obtain⟨W',er,cs',n,h1,h2,h3,h4,h5,h6,h7,h8⟩:=G.op o.del o.id o.fs ho.id (by omega)
 exact⟨W',er,cs',⟨n,h1⟩,h6,h3,h4,h7,h8,law_do hw G hT hF o.del o.id o.fs o.A o.c ho.sl hfn ho.id hv h1 h2 h3 (fun h=>(h4 h).1) h5 h6⟩
def exC (kk bb:Value):ConfM:=⟨2,64,2,1,0,0,20,200,kk,bb⟩
def exO (del:Bool):OpM:=⟨del,7,[⟨#[102,111,120,32,102,111,120]⟩]⟩
def stepS (C:ConfM)(y:List Int×WrM)(o:OpM):List Int×WrM:=match y.2.segs.getLast? with
 |none=>y
 |some live=>match(opT C y.2 live o).ideal y.1 with
  |some ((W',_),cs',_)=>(cs',W')
  |none=>y
def exS0 (kk bb:Value):List Int×WrM:=(newC (exC kk bb),newW (exC kk bb))
def exS1 (kk bb:Value):List Int×WrM:=stepS (exC kk bb) (exS0 kk bb) (exO false)
def exS2 (kk bb:Value):List Int×WrM:=stepS (exC kk bb) (exS1 kk bb) (exO false)
def exS3 (kk bb:Value):List Int×WrM:=stepS (exC kk bb) (exS2 kk bb) (exO true)
def exS4 (kk bb:Value):List Int×WrM:=stepS (exC kk bb) (exS3 kk bb) (exO true)
theorem ex_1 (kk bb:Value):(exS1 kk bb).2.ver=1:=by kernel_rfl
theorem ex_2 (kk bb:Value):(exS2 kk bb).2.ver=1:=by kernel_rfl
theorem ex_3 (kk bb:Value):(exS3 kk bb).2.ver=2:=by kernel_rfl
theorem ex_4 (kk bb:Value):(exS4 kk bb).2.ver=2:=by kernel_rfl
theorem stepS_of {C:ConfM}{y:List Int×WrM}{o:OpM}{live:SegM}{W':WrM}{er:Int}{cs':List Int}{n:Nat}(hl:y.2.segs.getLast?=some live)(h:(opT C y.2 live o).ideal y.1=some ((W',er),cs',n)):stepS C y o=(cs',W'):=by
 unfold stepS;rw[hl];dsimp only;rw[h]
theorem blk_out15 {w:World}{b:Nat}{l:List Value}(h:Blk w b l)(hl:l.length=15)(v0 v1 v2 v3 v4 v5 v6 v7 v8 v9 v10 v11 v12 v13 v14:Value):Blk (((((((((((((((w.setCell ⟨b,0,none⟩ (v0)).setCell ⟨b,1,none⟩ (v1)).setCell ⟨b,2,none⟩ (v2)).setCell ⟨b,3,none⟩ (v3)).setCell ⟨b,4,none⟩ (v4)).setCell ⟨b,5,none⟩ (v5)).setCell ⟨b,6,none⟩ (v6)).setCell ⟨b,7,none⟩ (v7)).setCell ⟨b,8,none⟩ (v8)).setCell ⟨b,9,none⟩ (v9)).setCell ⟨b,10,none⟩ (v10)).setCell ⟨b,11,none⟩ (v11)).setCell ⟨b,12,none⟩ (v12)).setCell ⟨b,13,none⟩ (v13)).setCell ⟨b,14,none⟩ (v14)) b [v0,v1,v2,v3,v4,v5,v6,v7,v8,v9,v10,v11,v12,v13,v14]:=by
 have h2:=(((((((((((((((h.set 0 v0).set 1 v1).set 2 v2).set 3 v3).set 4 v4).set 5 v5).set 6 v6).set 7 v7).set 8 v8).set 9 v9).set 10 v10).set 11 v11).set 12 v12).set 13 v13).set 14 v14)
 match l,hl with
 | [a0,a1,a2,a3,a4,a5,a6,a7,a8,a9,a10,a11,a12,a13,a14],_=>exact h2
theorem keeps_out15 {K:Nat→Prop}{w0 w:World}{b:Nat}(h:Keeps K w0 w)(hb:¬K b)(v0 v1 v2 v3 v4 v5 v6 v7 v8 v9 v10 v11 v12 v13 v14:Value):Keeps K w0 (((((((((((((((w.setCell ⟨b,0,none⟩ (v0)).setCell ⟨b,1,none⟩ (v1)).setCell ⟨b,2,none⟩ (v2)).setCell ⟨b,3,none⟩ (v3)).setCell ⟨b,4,none⟩ (v4)).setCell ⟨b,5,none⟩ (v5)).setCell ⟨b,6,none⟩ (v6)).setCell ⟨b,7,none⟩ (v7)).setCell ⟨b,8,none⟩ (v8)).setCell ⟨b,9,none⟩ (v9)).setCell ⟨b,10,none⟩ (v10)).setCell ⟨b,11,none⟩ (v11)).setCell ⟨b,12,none⟩ (v12)).setCell ⟨b,13,none⟩ (v13)).setCell ⟨b,14,none⟩ (v14)):=
 (((((((((((((((h.setCell (p:=⟨b,0,none⟩) hb v0).setCell (p:=⟨b,1,none⟩) hb v1).setCell (p:=⟨b,2,none⟩) hb v2).setCell (p:=⟨b,3,none⟩) hb v3).setCell (p:=⟨b,4,none⟩) hb v4).setCell (p:=⟨b,5,none⟩) hb v5).setCell (p:=⟨b,6,none⟩) hb v6).setCell (p:=⟨b,7,none⟩) hb v7).setCell (p:=⟨b,8,none⟩) hb v8).setCell (p:=⟨b,9,none⟩) hb v9).setCell (p:=⟨b,10,none⟩) hb v10).setCell (p:=⟨b,11,none⟩) hb v11).setCell (p:=⟨b,12,none⟩) hb v12).setCell (p:=⟨b,13,none⟩) hb v13).setCell (p:=⟨b,14,none⟩) hb v14)
def zp15:List Value:=[.int .i64 0,.int .i64 0,.int .i64 0,.int .i64 0,.int .i64 0,.int .i64 0,.int .i64 0,.int .i64 0,.int .i64 0,.int .i64 0,.int .i64 0,.int .i64 0,.int .i64 0,.int .i64 0,.int .i64 0]
set_option maxRecDepth 100000 in
set_option maxHeartbeats 4000000 in
theorem ref12_new_full (cf:ConfM)(hcf:cf.ok)(hall:cf.all≤65536)(w:World)(hfu:cf.plan.size.a5<cf.plan.live+2):
  Calls Tryz.prog 32 #[.agg cf.list.toArray] w fun e w'=>e= .returned (.tuple #[.agg st0.toArray,cf.plan.val,I 3])∧Keeps (· <w.heap.size) w w':=by
 have zz9:=@c177;exact c176
def newL (cf:ConfM)(n:Nat):List Int:=(((List.replicate n (0:Int)).set (cf.plan.base.a5+cf.plan.live).toNat 1).set (cf.plan.base.a5+cf.plan.live+1).toNat cf.plan.base.a5).set 2 (cf.plan.base.a5+cf.plan.live)
set_option maxRecDepth 100000 in
set_option maxHeartbeats 4000000 in
theorem ref12_new_good (cf:ConfM)(hcf:cf.ok)(hall:cf.all≤65536)(w:World)(n:Nat)(hn:cf.all=(n:Int))(hfu:¬cf.plan.size.a5<cf.plan.live+2):
  Calls Tryz.prog 32 #[.agg cf.list.toArray] w fun e w'=>∃NB GB,e= .returned (.tuple #[.agg #[.slice (some ⟨NB,0,none⟩) n n,.slice (some ⟨GB,0,none⟩) 1 1,I 0,J 0,I 0,I 0,I 0,I 0,I 0,I (cf.plan.live+2)],cf.plan.val,I 0])∧w.heap.size≤NB∧w.heap.size≤GB∧Blk w' NB ((newL cf n).map (Value.int .u32))∧Blk w' GB (SegM.cells ⟨cf.plan.base.a5,0,false⟩)∧Keeps (· <w.heap.size) w w':=by
 have Hcn0:=hid (show cf.plan.cells=(n:Int)from hn)
 unfold newL;have zz9:=@c178;exact c176
set_option maxRecDepth 100000 in
set_option maxHeartbeats 4000000 in
theorem begin_no (C:ConfM)(h:¬(C.ok∧C.all≤5000))(w:World):Calls Tryz.prog 9 #[.agg C.list.toArray] w fun e w'=>e= .returned (.tuple #[.pointer none,.bool true])∧Keeps (· <w.heap.size) w w':=by
 have hlay:∃(p:PlanM) (e0:Int),(∀W,Calls Tryz.prog 28 #[.agg C.list.toArray] W fun e w'=>e= .returned (.tuple #[p.val,I e0])∧Keeps (· <W.heap.size) W w')∧(e0≠0∨(e0=0∧5000<p.cells)):=by
  by_cases h2:C.ok∧C.all≤65536
  ·exact⟨C.plan,0,fun W=>lay_yes C h2.1 h2.2 W,Or.inr ⟨rfl,by show 5000<C.all;have:¬C.all≤5000:=fun h3=>h ⟨h2.1,h3⟩;omega⟩⟩
  ·exact⟨PlanM.zero,1,fun W=>lay_no C h2 W,Or.inl (by decide)⟩
 obtain⟨p,e0,hlay,hbad⟩:=hlay;have zz173:=@c808;exact c807
set_option maxRecDepth 100000 in
set_option maxHeartbeats 4000000 in
theorem begin_full (C:ConfM)(h:C.ok∧C.all≤5000)(hfu:C.plan.size.a5<C.plan.live+2)(w:World)(hT:PTab w):Calls Tryz.prog 9 #[.agg C.list.toArray] w fun e w'=>e= .returned (.tuple #[.pointer none,.bool true])∧Keeps (· <w.heap.size) w w':=by
 have zz100:=@c537;exact c536
theorem Blk.keepS {w w':World}{b:Nat}{l:List Value}(k:Keeps (· <w.heap.size) w w')(h:Blk w b l):Blk w' b l:=h.keep k h.lt
set_option maxRecDepth 100000 in
set_option maxHeartbeats 8000000 in
theorem begin_good (C:ConfM)(h:C.ok∧C.all≤5000)(hfu:¬C.plan.size.a5<C.plan.live+2)(w0 w:World)(hT:PTab w)(hk0:Keeps (· <w0.heap.size) w0 w):Calls Tryz.prog 9 #[.agg C.list.toArray] w fun e w'=>∃X m c st,e= .returned (.tuple #[.pointer (some ⟨X,0,none⟩),.bool true])∧
   Wd w0 w' (fun b=>b<w'.heap.size∧b≠X∧b≠m∧b≠c) X m c C (newC C) (newW C) st∧(w.heap.size≤X∧w.heap.size≤m∧w.heap.size≤c)∧Keeps (· <w.heap.size) w w':=by
 have zz100:=@c538;exact c536
end Go.Proofs.YtogdknnkhkjmcaaGreatDoor
