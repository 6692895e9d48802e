/- Layer 12 (write): contract of Add, way 1. Printed by gen/wradd.py. -/
import Derived.Test.YtogdknnkhkjmcaaGreatDoorJRcM
namespace Go.Proofs.YtogdknnkhkjmcaaGreatDoor
open Go.RowKit
set_option linter.all false
set_option maxRecDepth 100000 in
set_option maxHeartbeats 4000000 in
theorem add_long {w:World}{K:Nat→Prop}{r m c:Nat}{s:St}(h:RM w K r m c s)(hK0:K 0)(hT:PTab w)(hF:FoldTab w)(cf:ConfM)(hcf:cf.ok∧cf.all≤65536)(W:WrM)(live:SegM)(A:Option Addr)(cp:Nat)(id:Int)(fs:List ByteArray)(FA:Option Addr)(fc:Nat)
  (hlive:W.segs.getLast?=some live) (hsl:SlAt w K 3 (.slice A W.segs.length cp) W.segs.length (W.segs.flatMap SegM.cells)) (hfl:SlAt w K 1 (.slice FA fs.length fc) fs.length (fs.map Value.string)) (hfn:fs.length≤1000000)
  (hok:∀x∈W.segs,(-1099511627700≤x.addr∧x.addr≤1099511627700)∧x.docs≤65536) (hn:W.segs.length≤65536) (hi:U32 id) (hv:0≤W.ver∧W.ver≤4294967294) (hu:UIn cf.plan W.used) (htm:0≤W.terms∧W.terms≤65536) (hlb:0≤live.base∧live.base≤65000)
  (htk:toksM fs=none):
  Calls Tryz.prog 36 #[.pointer (some ⟨r,0,none⟩),.agg cf.list.toArray,.agg (W.vals (.slice A W.segs.length cp)).toArray,.agg #[J id,.slice FA fs.length fc]] w fun e w'=>
   (e= .returned (.tuple #[.agg (W.vals (.slice A W.segs.length cp)).toArray,I 4])∧RM w' K r m c s)∧Keeps K w w':=by
 have zz77:=@c467;exact c466
set_option maxRecDepth 100000 in
set_option maxHeartbeats 4000000 in
theorem add_dup {w:World}{K:Nat→Prop}{r m c:Nat}{s:St}(h:RM w K r m c s)(hK0:K 0)(hT:PTab w)(hF:FoldTab w)(cf:ConfM)(hcf:cf.ok∧cf.all≤65536)(W:WrM)(live:SegM)(A:Option Addr)(cp:Nat)(id:Int)(fs:List ByteArray)(FA:Option Addr)(fc:Nat)
  (hlive:W.segs.getLast?=some live) (hsl:SlAt w K 3 (.slice A W.segs.length cp) W.segs.length (W.segs.flatMap SegM.cells)) (hfl:SlAt w K 1 (.slice FA fs.length fc) fs.length (fs.map Value.string)) (hfn:fs.length≤1000000)
  (hok:∀x∈W.segs,(-1099511627700≤x.addr∧x.addr≤1099511627700)∧x.docs≤65536) (hn:W.segs.length≤65536) (hi:U32 id) (hv:0≤W.ver∧W.ver≤4294967294) (hu:UIn cf.plan W.used) (htm:0≤W.terms∧W.terms≤65536) (hlb:0≤live.base∧live.base≤65000)
  {toks:List TokI} (htk:toksM fs=some toks) {pi pd:Int} {sp:St} (hq:(placeT id W.segs 0).exec s=((pi,pd,true),sp)):
  Calls Tryz.prog 36 #[.pointer (some ⟨r,0,none⟩),.agg cf.list.toArray,.agg (W.vals (.slice A W.segs.length cp)).toArray,.agg #[J id,.slice FA fs.length fc]] w fun e w'=>
   (e= .returned (.tuple #[.agg (W.vals (.slice A W.segs.length cp)).toArray,I 6])∧RM w' K r m c sp)∧Keeps K w w':=by
 have zz3:=@c159;exact c158
set_option maxRecDepth 100000 in
set_option maxHeartbeats 4000000 in
theorem add_seg {w:World}{K:Nat→Prop}{r m c:Nat}{s:St}(h:RM w K r m c s)(hK0:K 0)(hT:PTab w)(hF:FoldTab w)(cf:ConfM)(hcf:cf.ok∧cf.all≤65536)(W:WrM)(live:SegM)(A:Option Addr)(cp:Nat)(id:Int)(fs:List ByteArray)(FA:Option Addr)(fc:Nat)
  (hlive:W.segs.getLast?=some live) (hsl:SlAt w K 3 (.slice A W.segs.length cp) W.segs.length (W.segs.flatMap SegM.cells)) (hfl:SlAt w K 1 (.slice FA fs.length fc) fs.length (fs.map Value.string)) (hfn:fs.length≤1000000)
  (hok:∀x∈W.segs,(-1099511627700≤x.addr∧x.addr≤1099511627700)∧x.docs≤65536) (hn:W.segs.length≤65536) (hi:U32 id) (hv:0≤W.ver∧W.ver≤4294967294) (hu:UIn cf.plan W.used) (htm:0≤W.terms∧W.terms≤65536) (hlb:0≤live.base∧live.base≤65000)
  {toks:List TokI} (htk:toksM fs=some toks) {pi pd:Int} {sp:St} (hq:(placeT id W.segs 0).exec s=((pi,pd,false),sp)) (hx:sp.isOff=true∨cf.docs≤(live.docs:Int)):
  Calls Tryz.prog 36 #[.pointer (some ⟨r,0,none⟩),.agg cf.list.toArray,.agg (W.vals (.slice A W.segs.length cp)).toArray,.agg #[J id,.slice FA fs.length fc]] w fun e w'=>
   (e= .returned (.tuple #[.agg (W.vals (.slice A W.segs.length cp)).toArray,I 5])∧RM w' K r m c sp)∧Keeps K w w':=by
 have zz3:=@c160;exact c158
set_option maxRecDepth 100000 in
set_option maxHeartbeats 4000000 in
theorem add_off {w:World}{K:Nat→Prop}{r m c:Nat}{s:St}(h:RM w K r m c s)(hK0:K 0)(hT:PTab w)(hF:FoldTab w)(cf:ConfM)(hcf:cf.ok∧cf.all≤65536)(W:WrM)(live:SegM)(A:Option Addr)(cp:Nat)(id:Int)(fs:List ByteArray)(FA:Option Addr)(fc:Nat)
  (hlive:W.segs.getLast?=some live) (hsl:SlAt w K 3 (.slice A W.segs.length cp) W.segs.length (W.segs.flatMap SegM.cells)) (hfl:SlAt w K 1 (.slice FA fs.length fc) fs.length (fs.map Value.string)) (hfn:fs.length≤1000000)
  (hok:∀x∈W.segs,(-1099511627700≤x.addr∧x.addr≤1099511627700)∧x.docs≤65536) (hn:W.segs.length≤65536) (hi:U32 id) (hv:0≤W.ver∧W.ver≤4294967294) (hu:UIn cf.plan W.used) (htm:0≤W.terms∧W.terms≤65536) (hlb:0≤live.base∧live.base≤65000)
  {toks:List TokI} (htk:toksM fs=some toks) {pi pd:Int} {sp:St} (hq:(placeT id W.segs 0).exec s=((pi,pd,false),sp)) (ho1:sp.isOff=false) (hx:¬cf.docs≤(live.docs:Int)) {all:List TermM} {sy:St} (hy:(termsT (live.base+4*cf.docs) cf.plan.slots.toNat toks []).exec sp=(all,sy)) {fr m0 m1 m2 m3 m4 m5:Int} (hnd:needsP cf.plan all 0 zero6=(fr,⟨m0,m1,m2,m3,m4,m5⟩)) (ho2:sy.isOff=true):
  Calls Tryz.prog 36 #[.pointer (some ⟨r,0,none⟩),.agg cf.list.toArray,.agg (W.vals (.slice A W.segs.length cp)).toArray,.agg #[J id,.slice FA fs.length fc]] w fun e w'=>
   (e= .returned (.tuple #[.agg (W.vals (.slice A W.segs.length cp)).toArray,I 0])∧RM w' K r m c sy)∧Keeps K w w':=by
 have zz2:=@c156;exact c155
set_option maxRecDepth 100000 in
set_option maxHeartbeats 4000000 in
theorem add_terms {w:World}{K:Nat→Prop}{r m c:Nat}{s:St}(h:RM w K r m c s)(hK0:K 0)(hT:PTab w)(hF:FoldTab w)(cf:ConfM)(hcf:cf.ok∧cf.all≤65536)(W:WrM)(live:SegM)(A:Option Addr)(cp:Nat)(id:Int)(fs:List ByteArray)(FA:Option Addr)(fc:Nat)
  (hlive:W.segs.getLast?=some live) (hsl:SlAt w K 3 (.slice A W.segs.length cp) W.segs.length (W.segs.flatMap SegM.cells)) (hfl:SlAt w K 1 (.slice FA fs.length fc) fs.length (fs.map Value.string)) (hfn:fs.length≤1000000)
  (hok:∀x∈W.segs,(-1099511627700≤x.addr∧x.addr≤1099511627700)∧x.docs≤65536) (hn:W.segs.length≤65536) (hi:U32 id) (hv:0≤W.ver∧W.ver≤4294967294) (hu:UIn cf.plan W.used) (htm:0≤W.terms∧W.terms≤65536) (hlb:0≤live.base∧live.base≤65000)
  {toks:List TokI} (htk:toksM fs=some toks) {pi pd:Int} {sp:St} (hq:(placeT id W.segs 0).exec s=((pi,pd,false),sp)) (ho1:sp.isOff=false) (hx:¬cf.docs≤(live.docs:Int)) {all:List TermM} {sy:St} (hy:(termsT (live.base+4*cf.docs) cf.plan.slots.toNat toks []).exec sp=(all,sy)) {fr m0 m1 m2 m3 m4 m5:Int} (hnd:needsP cf.plan all 0 zero6=(fr,⟨m0,m1,m2,m3,m4,m5⟩)) (ho2:sy.isOff=false) (hfr:cf.terms-W.terms<fr):
  Calls Tryz.prog 36 #[.pointer (some ⟨r,0,none⟩),.agg cf.list.toArray,.agg (W.vals (.slice A W.segs.length cp)).toArray,.agg #[J id,.slice FA fs.length fc]] w fun e w'=>
   (e= .returned (.tuple #[.agg (W.vals (.slice A W.segs.length cp)).toArray,I 5])∧RM w' K r m c sy)∧Keeps K w w':=by
 have zz1:=@c153;exact c152
set_option maxRecDepth 100000 in
set_option maxHeartbeats 4000000 in
theorem add_full {w:World}{K:Nat→Prop}{r m c:Nat}{s:St}(h:RM w K r m c s)(hK0:K 0)(hT:PTab w)(hF:FoldTab w)(cf:ConfM)(hcf:cf.ok∧cf.all≤65536)(W:WrM)(live:SegM)(A:Option Addr)(cp:Nat)(id:Int)(fs:List ByteArray)(FA:Option Addr)(fc:Nat)
  (hlive:W.segs.getLast?=some live) (hsl:SlAt w K 3 (.slice A W.segs.length cp) W.segs.length (W.segs.flatMap SegM.cells)) (hfl:SlAt w K 1 (.slice FA fs.length fc) fs.length (fs.map Value.string)) (hfn:fs.length≤1000000)
  (hok:∀x∈W.segs,(-1099511627700≤x.addr∧x.addr≤1099511627700)∧x.docs≤65536) (hn:W.segs.length≤65536) (hi:U32 id) (hv:0≤W.ver∧W.ver≤4294967294) (hu:UIn cf.plan W.used) (htm:0≤W.terms∧W.terms≤65536) (hlb:0≤live.base∧live.base≤65000)
  {toks:List TokI} (htk:toksM fs=some toks) {pi pd:Int} {sp:St} (hq:(placeT id W.segs 0).exec s=((pi,pd,false),sp)) (ho1:sp.isOff=false) (hx:¬cf.docs≤(live.docs:Int)) {all:List TermM} {sy:St} (hy:(termsT (live.base+4*cf.docs) cf.plan.slots.toNat toks []).exec sp=(all,sy)) {fr m0 m1 m2 m3 m4 m5:Int} (hnd:needsP cf.plan all 0 zero6=(fr,⟨m0,m1,m2,m3,m4,m5⟩)) (ho2:sy.isOff=false) (hfr:¬cf.terms-W.terms<fr) (hfi:fitsP cf.plan W.used ⟨m0,m1,m2,m3,m4,m5⟩=false):
  Calls Tryz.prog 36 #[.pointer (some ⟨r,0,none⟩),.agg cf.list.toArray,.agg (W.vals (.slice A W.segs.length cp)).toArray,.agg #[J id,.slice FA fs.length fc]] w fun e w'=>
   (e= .returned (.tuple #[.agg (W.vals (.slice A W.segs.length cp)).toArray,I 3])∧RM w' K r m c sy)∧Keeps K w w':=by
 have zz1:=@c154;exact c152
set_option maxRecDepth 100000 in
set_option maxHeartbeats 16000000 in
theorem add_good {w:World}{K:Nat→Prop}{r m c:Nat}{s:St}(h:RM w K r m c s)(hK0:K 0)(hT:PTab w)(hF:FoldTab w)(cf:ConfM)(hcf:cf.ok∧cf.all≤65536)(W:WrM)(live:SegM)(A:Option Addr)(cp:Nat)(id:Int)(fs:List ByteArray)(FA:Option Addr)(fc:Nat)
  (hlive:W.segs.getLast?=some live) (hsl:SlAt w K 3 (.slice A W.segs.length cp) W.segs.length (W.segs.flatMap SegM.cells)) (hfl:SlAt w K 1 (.slice FA fs.length fc) fs.length (fs.map Value.string)) (hfn:fs.length≤1000000)
  (hok:∀x∈W.segs,(-1099511627700≤x.addr∧x.addr≤1099511627700)∧x.docs≤65536) (hn:W.segs.length≤65536) (hi:U32 id) (hv:0≤W.ver∧W.ver≤4294967294) (hu:UIn cf.plan W.used) (htm:0≤W.terms∧W.terms≤65536) (hlb:0≤live.base∧live.base≤65000)
  {toks:List TokI} (htk:toksM fs=some toks) {pi pd:Int} {sp:St} (hq:(placeT id W.segs 0).exec s=((pi,pd,false),sp)) (ho1:sp.isOff=false) (hx:¬cf.docs≤(live.docs:Int)) {all:List TermM} {sy:St} (hy:(termsT (live.base+4*cf.docs) cf.plan.slots.toNat toks []).exec sp=(all,sy)) {fr m0 m1 m2 m3 m4 m5:Int} (hnd:needsP cf.plan all 0 zero6=(fr,⟨m0,m1,m2,m3,m4,m5⟩)) (ho2:sy.isOff=false) (hfr:¬cf.terms-W.terms<fr) (hfi:fitsP cf.plan W.used ⟨m0,m1,m2,m3,m4,m5⟩=true) {all':List TermM} {u':V6} {sz:St} (hwd:(wordsT cf.plan (live.base+4*cf.docs) cf.plan.slots.toNat live.docs toks all W.used).exec sy=((all',u'),sz)):
  Calls Tryz.prog 36 #[.pointer (some ⟨r,0,none⟩),.agg cf.list.toArray,.agg (W.vals (.slice A W.segs.length cp)).toArray,.agg #[J id,.slice FA fs.length fc]] w fun e w'=>
   (∃v K',(∀b,K b→K' b)∧e= .returned (.tuple #[.agg (WrM.vals ⟨moreDocs W.segs,W.terms+fr,W.ver+1,u'⟩ v).toArray,I 0])∧SlAt w' (fun b=>K' b∧w.heap.size≤b) 3 v W.segs.length ((moreDocs W.segs).flatMap SegM.cells)∧RM w' K' r m c (((layT live.base live.docs id toks.length (W.ver+1)).exec sz).2.store 1 (W.ver+1)))∧Keeps K w w':=by
 have zz2:=@c157;exact c155
def addR (cf:ConfM)(W:WrM)(live:SegM)(id:Int)(fs:List ByteArray)(s:St):(WrM×Int)×St:=match toksM fs with
 |none=>((W,4),s)
 |some toks=>(addT cf W live id toks).exec s
theorem addT_exec (cf:ConfM)(W:WrM)(live:SegM)(id:Int)(toks:List TokI)(s:St):(addT cf W live id toks).exec s=
  if((placeT id W.segs 0).exec s).1.2.2=true then((W,6),((placeT id W.segs 0).exec s).2)else
  if((placeT id W.segs 0).exec s).2.isOff=true∨cf.docs≤(live.docs:Int)then((W,5),((placeT id W.segs 0).exec s).2)else
  ((termsT (live.base+4*cf.docs) cf.plan.slots.toNat toks []).bind fun all=>
   .off fun o2=>if o2=true then .ret (W,0)else
   if cf.terms-W.terms<(needsP cf.plan all 0 zero6).1 then .ret (W,5)else
   if fitsP cf.plan W.used (needsP cf.plan all 0 zero6).2=false then .ret (W,3)else
   (wordsT cf.plan (live.base+4*cf.docs) cf.plan.slots.toNat live.docs toks all W.used).bind fun y=>
   (layT live.base live.docs id toks.length (W.ver+1)).bind fun _=>
   .store 1 (W.ver+1) (.ret ((⟨moreDocs W.segs,W.terms+(needsP cf.plan all 0 zero6).1,W.ver+1,y.2⟩,0):WrM×Int))).exec ((placeT id W.segs 0).exec s).2:=by
 unfold addT;rw[Tree.exec_bind]
 split
 ·rfl
 ·show(if _ then _ else _:Tree (WrM×Int)).exec _=_
  split<;>rfl
theorem moreDocs_len {l:List SegM}{x:SegM}(h:l.getLast?=some x):(moreDocs l).length=l.length:=by
 obtain⟨k,hk,hx⟩:=last_ix h;rw[←moreDocs_set hk hx,List.length_set]
theorem write_add {w:World}{K:Nat→Prop}{r m c:Nat}{s:St}(h:RM w K r m c s)(hK0:K 0)(hT:PTab w)(hF:FoldTab w)(cf:ConfM)(hcf:cf.ok∧cf.all≤65536)(W:WrM)(live:SegM)(A:Option Addr)(cp:Nat)(id:Int)(fs:List ByteArray)(FA:Option Addr)(fc:Nat)
  (hlive:W.segs.getLast?=some live) {Ks:Nat→Prop} (hKs:∀b,Ks b→K b) (hsl0:SlAt w Ks 3 (.slice A W.segs.length cp) W.segs.length (W.segs.flatMap SegM.cells)) (hfl:SlAt w K 1 (.slice FA fs.length fc) fs.length (fs.map Value.string)) (hfn:fs.length≤1000000)
  (hok:∀x∈W.segs,(-1099511627700≤x.addr∧x.addr≤1099511627700)∧x.docs≤65536) (hn:W.segs.length≤65536) (hi:U32 id) (hv:0≤W.ver∧W.ver≤4294967294) (hu:UIn cf.plan W.used) (htm:0≤W.terms∧W.terms≤65536) (hlb:0≤live.base∧live.base≤65000):
  Calls Tryz.prog 36 #[.pointer (some ⟨r,0,none⟩),.agg cf.list.toArray,.agg (W.vals (.slice A W.segs.length cp)).toArray,.agg #[J id,.slice FA fs.length fc]] w fun e w'=>
   ∃v K',(∀b,K b→K' b)∧e= .returned (.tuple #[.agg ((addR cf W live id fs s).1.1.vals v).toArray,I (addR cf W live id fs s).1.2])∧SlAt w' (fun b=>Ks b∨(K' b∧w.heap.size≤b)) 3 v (addR cf W live id fs s).1.1.segs.length ((addR cf W live id fs s).1.1.segs.flatMap SegM.cells)∧
    RM w' K' r m c (addR cf W live id fs s).2∧Keeps K w w':=by
 have hsl:=hsl0.mono hKs;have same:∀{er:Int} {st:St} {e:Ending} {w':World},addR cf W live id fs s=((W,er),st)→((e= .returned (.tuple #[.agg (W.vals (.slice A W.segs.length cp)).toArray,I er])∧RM w' K r m c st)∧Keeps K w w')→
   ∃v K',(∀b,K b→K' b)∧e= .returned (.tuple #[.agg ((addR cf W live id fs s).1.1.vals v).toArray,I (addR cf W live id fs s).1.2])∧SlAt w' (fun b=>Ks b∨(K' b∧w.heap.size≤b)) 3 v (addR cf W live id fs s).1.1.segs.length ((addR cf W live id fs s).1.1.segs.flatMap SegM.cells)∧
    RM w' K' r m c (addR cf W live id fs s).2∧Keeps K w w':=fun he ⟨⟨h1,h2⟩,h3⟩=>by
  rw[he];exact⟨_,K,fun b hb=>hb,h1,(hsl0.keep h3 hKs).mono fun b hb=>Or.inl hb,h2,h3⟩
 cases htk:toksM fs with
 |none=>exact(add_long h hK0 hT hF cf hcf W live A cp id fs FA fc hlive hsl hfl hfn hok hn hi hv hu htm hlb htk).mono fun e w' H=>same (by unfold addR;rw[htk]) H
 |some toks=>
  have hR:addR cf W live id fs s=(addT cf W live id toks).exec s:=by unfold addR;rw[htk]
  rw[addT_exec]at hR
  cases hq:(placeT id W.segs 0).exec s with
  |mk q sp=>
  obtain⟨pi,pd,pb⟩:=q;rw[hq]at hR;dsimp only at hR
  cases pb with
  |true=>exact(add_dup h hK0 hT hF cf hcf W live A cp id fs FA fc hlive hsl hfl hfn hok hn hi hv hu htm hlb htk hq).mono fun e w' H=>same (by rw[hR,if_pos rfl]) H
  |false=>
   rw[if_neg (by decide)]at hR
   by_cases hx:sp.isOff=true∨cf.docs≤(live.docs:Int)
   ·exact(add_seg h hK0 hT hF cf hcf W live A cp id fs FA fc hlive hsl hfl hfn hok hn hi hv hu htm hlb htk hq hx).mono fun e w' H=>same (by rw[hR,if_pos hx]) H
   ·rw[if_neg hx,Tree.exec_bind]at hR;have ho1:sp.isOff=false:=by
     cases ho:sp.isOff with
     |false=>rfl
     |true=>exact absurd (Or.inl ho) hx
    have hx2:¬cf.docs≤(live.docs:Int):=fun h=>hx (Or.inr h)
    cases hy:(termsT (live.base+4*cf.docs) cf.plan.slots.toNat toks []).exec sp with
    |mk all sy=>
    rw[hy]at hR
    cases hnd:needsP cf.plan all 0 zero6 with
    |mk fr mo=>
    obtain⟨m0,m1,m2,m3,m4,m5⟩:=mo;dsimp only at hR;rw[hnd]at hR;dsimp only at hR;change _=(if sy.isOff=true then .ret (W,0)else if cf.terms-W.terms<fr then .ret (W,5)else if fitsP cf.plan W.used ⟨m0,m1,m2,m3,m4,m5⟩=false then .ret (W,3)else
     (wordsT cf.plan (live.base+4*cf.docs) cf.plan.slots.toNat live.docs toks all W.used).bind fun y=>
     (layT live.base live.docs id toks.length (W.ver+1)).bind fun _=>
     .store 1 (W.ver+1) (.ret ((⟨moreDocs W.segs,W.terms+fr,W.ver+1,y.2⟩,0):WrM×Int)):Tree (WrM×Int)).exec sy at hR
    cases ho2:sy.isOff with
    |true=>exact(add_off h hK0 hT hF cf hcf W live A cp id fs FA fc hlive hsl hfl hfn hok hn hi hv hu htm hlb htk hq ho1 hx2 hy hnd ho2).mono fun e w' H=>same (by rw[hR,if_pos ho2];rfl) H
    |false=>
     rw[if_neg (by rw[ho2];decide)]at hR
     by_cases hfr:cf.terms-W.terms<fr
     ·exact(add_terms h hK0 hT hF cf hcf W live A cp id fs FA fc hlive hsl hfl hfn hok hn hi hv hu htm hlb htk hq ho1 hx2 hy hnd ho2 hfr).mono fun e w' H=>same (by rw[hR,if_pos hfr];rfl) H
     ·rw[if_neg hfr]at hR
      cases hfi:fitsP cf.plan W.used ⟨m0,m1,m2,m3,m4,m5⟩with
      |false=>exact(add_full h hK0 hT hF cf hcf W live A cp id fs FA fc hlive hsl hfl hfn hok hn hi hv hu htm hlb htk hq ho1 hx2 hy hnd ho2 hfr hfi).mono fun e w' H=>same (by rw[hR,if_pos hfi];rfl) H
      |true=>
       rw[if_neg (by rw[hfi];decide),Tree.exec_bind]at hR
       cases hwd:(wordsT cf.plan (live.base+4*cf.docs) cf.plan.slots.toNat live.docs toks all W.used).exec sy with
       |mk qa sz=>
       obtain⟨all',u'⟩:=qa;rw[hwd]at hR;dsimp only at hR;rw[Tree.exec_bind]at hR;have hR:addR cf W live id fs s=((⟨moreDocs W.segs,W.terms+fr,W.ver+1,u'⟩,0),(((layT live.base live.docs id toks.length (W.ver+1)).exec sz).2.store 1 (W.ver+1))):=hR;refine(add_good h hK0 hT hF cf hcf W live A cp id fs FA fc hlive hsl hfl hfn hok hn hi hv hu htm hlb htk hq ho1 hx2 hy hnd ho2 hfr hfi hwd).mono ?_
       rintro e w' ⟨⟨v,K',h1,h2,h3,h4⟩,h5⟩;rw[hR];exact⟨v,K',h1,h2,by dsimp only;rw[moreDocs_len hlive];exact h3.mono fun b hb=>Or.inr hb,h4,h5⟩
end Go.Proofs.YtogdknnkhkjmcaaGreatDoor
