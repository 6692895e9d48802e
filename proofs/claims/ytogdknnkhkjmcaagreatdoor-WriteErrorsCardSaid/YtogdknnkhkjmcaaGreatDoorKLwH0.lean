/- Lemmas on the programs that the statement reaches. -/
import Derived.Test.YtogdknnkhkjmcaaGreatDoorKLwE
namespace Go.Proofs.YtogdknnkhkjmcaaGreatDoor
open Go.RowKit Go.ChangeShapes Go.WideShapes Go.Deep
set_option linter.all false
set_option maxRecDepth 100000
section
variable {H:Type}{enc:TypeId×Value→H}{w:World}
end
end Go.Proofs.YtogdknnkhkjmcaaGreatDoor
namespace Go.Proofs.YtogdknnkhkjmcaaGreatDoor
open Go.RowKit
set_option linter.all false
structure OpV where
 del:Bool
 id:Int
 A:Option Addr
 c:Nat
 fs:List ByteArray
def OpV.cells (o:OpV):List Value:=[.bool o.del,.int .u32 o.id,.slice o.A o.fs.length o.c]
structure OpV.ok (w:World)(K:Nat→Prop)(o:OpV):Prop where
 sl:SlAt w K 1 (.slice o.A o.fs.length o.c) o.fs.length (o.fs.map Value.string)
 id:U32 o.id
 sz:∀x∈o.fs,x.size≤140737488355328
def DoTo (C:ConfM)(cs:List Int)(W:WrM)(live:SegM)(s:Nat)(t:Tab)(del:Bool)(id:Int)(fs:List ByteArray)(W':WrM)(er:Int)(cs':List Int):Prop:=
 if del=true then rdelL ⟨cs,W⟩ id=(er,⟨cs',W'⟩)else match toksM fs with|none=>er=4∧W'=W∧cs'=cs|some toks=>AddWay C cs W live s id toks (termsP cs t C.plan.slots.toNat toks []) W' er cs'
theorem Good.op {C:ConfM}{P:Pools}{cs:List Int}{W:WrM}{live:SegM}{s:Nat}{t:Tab}{q:Nat→Nat}{hi:Nat}(G:Good C P cs W live s t q hi)(del:Bool)(id:Int)(fs:List ByteArray)(hid:U32 id)(hv:W.ver+1≤4294967295):
  ∃W' er cs' n,(opT C W live ⟨del,id,fs⟩).ideal cs=some ((W',er),cs',n)∧n<1048576∧(0≤er∧er≤7)∧(er≠0→W'=W∧cs'=cs)∧(W'.segs.length≤65536∧cs'.length≤maxLen)∧DoTo C cs W live s t del id fs W' er cs'∧W'.ver≤W.ver+1∧
   (∃live' t' q' hi',Good C P cs' W' live' s t' q' hi'):=by
 have fin:∀{cs':List Int} {W':WrM} {live':SegM} {t':Tab} {q':Nat→Nat} {hi':Nat},Good C P cs' W' live' s t' q' hi'→W'.segs.length≤65536∧cs'.length≤maxLen:=fun G'=>by
  have h1:=G'.nseg;have h2:=G'.dic.len;exact⟨by omega,by unfold maxLen;omega⟩
 unfold DoTo
 cases del with
 |true=>
  obtain⟨W',er,cs',n,h1,h2,h3,h4,h5,h6⟩:=G.del id hv;refine⟨W',er,cs',n,?_,h3,by omega,h4,fin h6,by rw[if_pos rfl];exact h1,?_,_,_,_,_,h6⟩
  ·unfold opT;rw[if_pos rfl];exact h2
  ·unfold rdelL at h1;dsimp only at h1
   split at h1
   ·injection h1 with _ e;injection e with _ e;rw[←e];omega
   ·split at h1
    ·injection h1 with _ e;injection e with _ e;rw[←e];omega
    ·split at h1
     ·injection h1 with _ e;injection e with _ e;rw[←e];omega
     ·injection h1 with _ e;injection e with _ e;rw[←e];exact Int.le_refl _
 |false=>
  cases htk:toksM fs with
  |none=>
   refine⟨W,4,cs,0,?_,by decide,⟨by decide,by decide⟩,fun _=>⟨rfl,rfl⟩,fin G,?_,by omega,_,_,_,_,G⟩
   ·unfold opT;dsimp only;rw[if_neg Bool.false_ne_true,htk];rfl
   ·rw[if_neg Bool.false_ne_true];exact⟨rfl,rfl,rfl⟩
  |some toks=>
   have hsm:=toksM_small htk;obtain⟨W',er,cs',n,h1,h2,h3,h4,h5⟩:=G.add id hid toks (fun x hx=>(hsm.1 x hx).2) hsm.2 hv;have her:(0≤er∧er≤7)∧W'.ver≤W.ver+1:=by
    cases h1 with
    |dup=>exact⟨⟨by decide,by decide⟩,by omega⟩
    |seg=>exact⟨⟨by decide,by decide⟩,by omega⟩
    |terms=>exact⟨⟨by decide,by decide⟩,by omega⟩
    |full=>exact⟨⟨by decide,by decide⟩,by omega⟩
    |good=>exact⟨⟨by decide,by decide⟩,Int.le_refl _⟩
   have hG:∃live' t' q' hi',Good C P cs' W' live' s t' q' hi':=by
    by_cases h0:er=0
    ·obtain⟨t',q',hi',g,-⟩:=h5 h0;exact⟨_,_,_,_,g⟩
    ·obtain⟨e1,e2⟩:=h4 h0;subst e1 e2;exact⟨_,_,_,_,G⟩
   obtain⟨live',t',q',hi',g⟩:=hG;refine⟨W',er,cs',n,?_,h3,her.1,h4,fin g,by rw[if_neg Bool.false_ne_true];exact h1,her.2,_,_,_,_,g⟩
   unfold opT;dsimp only;rw[if_neg Bool.false_ne_true,htk];exact h2
theorem do_good {w0 w:World}{K:Nat→Prop}{X m c:Nat}{C:ConfM}{P:Pools}{cs:List Int}{W:WrM}{st:Int}{live:SegM}{s0:Nat}{t0:Tab}{q0:Nat→Nat}{hi0:Nat}(hw:Wd w0 w K X m c C cs W st)(G:Good C P cs W live s0 t0 q0 hi0)(hT:PTab w0)(hF:FoldTab w0)
  (o:OpV) (ho:o.ok w K) (hfn:o.fs.length≤1000000) (hv:W.ver+1≤4294967294):∃W' er cs',(∃n,(opT C W live ⟨o.del,o.id,o.fs⟩).ideal cs=some ((W',er),cs',n))∧DoTo C cs W live s0 t0 o.del o.id o.fs W' er cs'∧(0≤er∧er≤7)∧(er≠0→W'=W∧cs'=cs)∧W'.ver≤W.ver+1∧(∃live' t' q' hi',Good C P cs' W' live' s0 t' q' hi')∧
   Z 13 #[.pointer (some ⟨X,0,none⟩),.agg o.cells.toArray] w fun e w'=>
    e= .returned (.bool true)∧(∃st',Wd w0 w' (fun b=>K b∨(w.heap.size≤b∧b<w'.heap.size)) X m c C cs' W' st'∧((opT C W live ⟨o.del,o.id,o.fs⟩).wr cs=0→st'=st))∧Keeps (fun b=>b<w.heap.size∧b≠X∧b≠m∧b≠c) w w':=by
 obtain⟨W',er,cs',n,h1,h2,h3,h4,h5,h6,h7,h8⟩:=G.op o.del o.id o.fs ho.id (by omega)
 exact⟨W',er,cs',⟨n,h1⟩,h6,h3,h4,h7,h8,law_do hw G hT hF o.del o.id o.fs o.A o.c ho.sl hfn ho.id hv h1 h2 h3 (fun h=>(h4 h).1) h5 h6⟩
def exC (kk bb:Value):ConfM:=⟨2,64,2,1,0,0,20,200,kk,bb⟩
def exO (del:Bool):OpM:=⟨del,7,[⟨#[102,111,120,32,102,111,120]⟩]⟩
def stepS (C:ConfM)(y:List Int×WrM)(o:OpM):List Int×WrM:=match y.2.segs.getLast? with
 |none=>y
 |some live=>match(opT C y.2 live o).ideal y.1 with
  |some ((W',_),cs',_)=>(cs',W')
  |none=>y
def exS0 (kk bb:Value):List Int×WrM:=(newC (exC kk bb),newW (exC kk bb))
def exS1 (kk bb:Value):List Int×WrM:=stepS (exC kk bb) (exS0 kk bb) (exO false)
def exS2 (kk bb:Value):List Int×WrM:=stepS (exC kk bb) (exS1 kk bb) (exO false)
def exS3 (kk bb:Value):List Int×WrM:=stepS (exC kk bb) (exS2 kk bb) (exO true)
def exS4 (kk bb:Value):List Int×WrM:=stepS (exC kk bb) (exS3 kk bb) (exO true)
theorem ex_1 (kk bb:Value):(exS1 kk bb).2.ver=1:=by kernel_rfl
theorem ex_2 (kk bb:Value):(exS2 kk bb).2.ver=1:=by kernel_rfl
theorem ex_3 (kk bb:Value):(exS3 kk bb).2.ver=2:=by kernel_rfl
theorem ex_4 (kk bb:Value):(exS4 kk bb).2.ver=2:=by kernel_rfl
theorem stepS_of {C:ConfM}{y:List Int×WrM}{o:OpM}{live:SegM}{W':WrM}{er:Int}{cs':List Int}{n:Nat}(hl:y.2.segs.getLast?=some live)(h:(opT C y.2 live o).ideal y.1=some ((W',er),cs',n)):stepS C y o=(cs',W'):=by
 unfold stepS;rw[hl];dsimp only;rw[h]
end Go.Proofs.YtogdknnkhkjmcaaGreatDoor
