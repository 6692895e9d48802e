/- Plain: what a program as a tree can answer, whatever it reads in a class of numbers. -/
import Derived.Test.YtogdknnkhkjmcaaGreatDoorJWrE
namespace Go.Proofs.YtogdknnkhkjmcaaGreatDoor
open Go.RowKit
set_option linter.all false
structure St.InV (V:Int→Prop)(s:St):Prop where
 zero:V 0
 cells:∀x∈s.m.cells,V x
 log:∀x∈s.r.log,V x
namespace Tree
def Says {α:Type}(V:Int→Prop)(Q:α→Prop):Tree α→Prop
 |ret x=>Q x
 |load _ k=>∀v,V v→(k v).Says V Q
 |store _ v k=>V v∧k.Says V Q
 |off k=>∀b,(k b).Says V Q
theorem Says.mono {α:Type}{V:Int→Prop}{Q Q':α→Prop}:∀{t:Tree α},t.Says V Q→(∀x,Q x→Q' x)→t.Says V Q'
 |ret _,h,hq=>hq _ h
 |load _ _,h,hq=>fun v hv=>(h v hv).mono hq
 |store _ _ _,h,hq=>⟨h.1,h.2.mono hq⟩
 |off _,h,hq=>fun b=>(h b).mono hq
theorem Says.bind {α β:Type}{V:Int→Prop}{Q:β→Prop}{f:α→Tree β}:∀{t:Tree α},t.Says V (fun x=>(f x).Says V Q)→(t.bind f).Says V Q
 |ret _,h=>h
 |load _ _,h=>fun v hv=>Says.bind (h v hv)
 |store _ _ _,h=>⟨h.1,Says.bind h.2⟩
 |off _,h=>fun b=>Says.bind (h b)
end Tree
theorem St.InV.load {V:Int→Prop}{s:St}(h:s.InV V)(a:Int):V (s.load a).1∧(s.load a).2.InV V:=by
 have hat:V (s.m.at a):=by
  unfold MemS.at;rw[List.getD_eq_getElem?_getD]
  cases e:s.m.cells[a.toNat]? with
  |none=>exact h.zero
  |some x=>exact h.cells x (List.mem_of_getElem? e)
 have hlog:V (s.r.log.getD s.r.pos 0):=by
  rw[List.getD_eq_getElem?_getD]
  cases e:s.r.log[s.r.pos]? with
  |none=>exact h.zero
  |some x=>exact h.log x (List.mem_of_getElem? e)
 have htl:s.r.turn.log=s.r.log:=by unfold RunS.turn;(repeat' split)<;>rfl
 have hv:V (if s.m.inb a then s.m.at a else 0):=by split;exact hat;exact h.zero
 unfold St.load
 split
 ·refine⟨hv,h.zero,fun x hx=>h.cells x ?_,fun x hx=>?_⟩
  ·unfold MemS.load at hx;split at hx<;>exact hx
  ·unfold RunS.made at hx;dsimp only at hx
   split at hx
   ·rcases List.mem_append.1 hx with hx|hx
    ·exact h.log x (htl▸hx)
    ·rw[List.mem_singleton.1 hx];exact hat
   ·exact h.log x (htl▸hx)
 ·split
  ·exact⟨hlog,h.zero,h.cells,fun x hx=>h.log x (htl▸hx)⟩
  ·exact⟨h.zero,h.zero,h.cells,fun x hx=>h.log x (htl▸hx)⟩
theorem St.InV.store {V:Int→Prop}{s:St}(h:s.InV V)(a:Int){v:Int}(hv:V v):(s.store a v).InV V:=by
 have htl:s.r.turn.log=s.r.log:=by unfold RunS.turn;(repeat' split)<;>rfl
 unfold St.store
 split
 ·refine⟨h.zero,fun x hx=>?_,fun x hx=>?_⟩
  ·unfold MemS.store at hx;dsimp only at hx
   split at hx
   ·rcases List.mem_or_eq_of_mem_set hx with hx|rfl
    ·exact h.cells x hx
    ·exact hv
   ·exact h.cells x hx
  ·unfold RunS.made at hx;dsimp only at hx
   split at hx
   ·rcases List.mem_append.1 hx with hx|hx
    ·exact h.log x (htl▸hx)
    ·rw[List.mem_singleton.1 hx];exact h.zero
   ·exact h.log x (htl▸hx)
 ·exact⟨h.zero,h.cells,fun x hx=>h.log x (htl▸hx)⟩
theorem Tree.Says.exec {α:Type}{V:Int→Prop}{Q:α→Prop}{t:Tree α}:∀{s:St},t.Says V Q→s.InV V→Q (t.exec s).1∧(t.exec s).2.InV V:=by
 induction t with
 |ret x=>intro s h hs;exact⟨h,hs⟩
 |load a k ih=>intro s h hs;exact ih _ (h _ (hs.load a).1) (hs.load a).2
 |store a v k ih=>intro s h hs;exact ih h.2 (hs.store a h.1)
 |off k ih=>intro s h hs;exact ih _ (h _) hs
theorem St.InV.any (s:St):s.InV fun _=>True:=⟨trivial,fun _ _=>trivial,fun _ _=>trivial⟩
theorem RM.inV {w:World}{K:Nat→Prop}{r m c:Nat}{s:St}(h:RM w K r m c s):s.InV U32:=by
 obtain⟨g,h1,_⟩:=h.run;exact⟨⟨by decide,by decide⟩,h.mem.range,h1.range⟩
theorem cmpD_says {V:Int→Prop}(a:Int):∀(C:List Int) (k:Nat),(cmpD a C k).Says V fun _=>True
 | [],_=>trivial
 |c::C,k=>fun v _=>by
  show Tree.Says V _ (if v≠c then Tree.ret false else .off fun o=>if o=true then .ret false else cmpD a C (k+1))
  split
  ·trivial
  ·intro b;show Tree.Says V _ (if b=true then Tree.ret false else cmpD a C (k+1))
   split
   ·trivial
   ·exact cmpD_says a C (k+1)
theorem findD_says {V:Int→Prop}(hV:V 0)(s0:Int)(n h:Nat)(C:List Int)(len:Int)(hn:0<n):∀(f i:Nat),(findD s0 n h C len f i).Says V fun x:Int×Int=>V x.1∧-1≤x.2∧x.2<(n:Int)
 |0,i=>⟨hV,by show(-1:Int)≤-1;omega,by show(-1:Int)<n;omega⟩
 |f+1,i=>fun a ha o=>by
  have hm:=Nat.mod_lt (h+i) hn;have ih:=findD_says hV s0 n h C len hn f (i+1);show Tree.Says V _ (if o=true then Tree.ret (0,-1)else if a=0 then .ret (0,(((h+i)%n:Nat):Int))else
   .load (a+1) fun ln=>if ln≠len then findD s0 n h C len f (i+1)else(cmpD a C 0).bind fun ok=>if ok=true then .ret (a,(((h+i)%n:Nat):Int))else findD s0 n h C len f (i+1))
  split
  ·exact⟨hV,by show(-1:Int)≤-1;omega,by show(-1:Int)<n;omega⟩
  ·split
   ·exact⟨hV,by show(-1:Int)≤(((h+i)%n:Nat):Int);omega,by show(((h+i)%n:Nat):Int)<n;omega⟩
   ·intro ln _;dsimp only
    split
    ·exact ih
    ·refine Tree.Says.bind ((cmpD_says a C 0).mono fun ok _=>?_)
     split
     ·exact⟨ha,by show(-1:Int)≤(((h+i)%n:Nat):Int);omega,by show(((h+i)%n:Nat):Int)<n;omega⟩
     ·exact ih
theorem findK_range (s0:Int)(n:Nat)(key:ByteArray)(hn:0<n)(s:St): -1≤((findK s0 n key).exec s).1.2∧((findK s0 n key).exec s).1.2<n:=
 ((findD_says (V:=fun _=>True) trivial s0 n _ _ _ hn n 0).exec (St.InV.any s)).1.2
theorem next_bad {p:PlanM}{t:Int}(h:(p.next t).2=false):p.next t=(0,false):=by
 unfold PlanM.next at*
 split
 ·rename_i hh;rw[if_pos hh]at h;cases h
 ·rename_i hh
  rw[if_neg hh]at h
  split
  ·rfl
  ·rename_i h2
   rw[if_neg h2]at h
   split
   ·rename_i h3;rw[if_pos h3]at h;cases h
   ·rename_i h3;rw[if_neg h3]at h;cases h
set_option maxRecDepth 100000 in
set_option maxHeartbeats 4000000 in
theorem put_bad {w:World}{K:Nat→Prop}{r m c:Nat}{s:St}(h:RM w K r m c s)(hK0:K 0)(ht:PTab w)(p:PlanM)(hp:p.Wf)(u:V6)(t v:Int)(ht0:0≤t∧t≤4294967295)(hv:U32 v)(hn:p.next t=(0,false)):
  Calls Tryz.prog 83 #[.pointer (some ⟨r,0,none⟩),p.val,u.val,I t,J v] w fun e w'=>
   e= .returned (.tuple #[I 0,zeros6v.val,I 1])∧RM w' K r m c s∧Keeps K w w':=by
 have zz12:=@c187;exact c185
def UIn (p:PlanM)(u:V6):Prop:=(0≤u.a0∧u.a0≤p.size.a0)∧(0≤u.a1∧u.a1≤p.size.a1)∧(0≤u.a2∧u.a2≤p.size.a2)∧(0≤u.a3∧u.a3≤p.size.a3)∧(0≤u.a4∧u.a4≤p.size.a4)∧(0≤u.a5∧u.a5≤p.size.a5)
theorem UIn.uK {p:PlanM}{u:V6}(h:UIn p u){k:Nat}(hk:k≤3):0≤u.uK k∧u.uK k≤p.sK k:=by
 obtain⟨h0,h1,h2,h3,_,_⟩:=h;have:k=0∨k=1∨k=2∨k=3:=by omega
 rcases this with rfl|rfl|rfl|rfl<;>assumption
theorem UIn.zero {p:PlanM}{u:V6}(h:UIn p u):UIn p zero6:=by
 unfold UIn zero6 at*;dsimp only
 omega
theorem UIn.up {p:PlanM}{u:V6}(h:UIn p u){k:Nat}(hk:k≤3){z:Int}(hz:0≤z)(hf:u.uK k+z≤p.sK k):UIn p (u.up k z):=by
 have:k=0∨k=1∨k=2∨k=3:=by omega
 obtain⟨h0,h1,h2,h3,h4,h5⟩:=h
 rcases this with rfl|rfl|rfl|rfl<;>(simp only[V6.uK,PlanM.sK]at hf;simp only[V6.up,UIn];omega)
theorem cls_lt {p:PlanM}(hp:p.Wf){t:Int}{k:Nat}(h:(p.cls t).1=(k:Int)):0≤t∧t<131072:=by
 have hk:∀k,p.has k t→0≤t∧t<131072:=fun k h=>by
  obtain⟨h1,h2⟩:=h;have:=hp.b k;have:=hp.s k
  omega
 unfold PlanM.cls at h
 split at h
 ·exact hk 0 (by assumption)
 ·split at h
  ·exact hk 1 (by assumption)
  ·split at h
   ·exact hk 2 (by assumption)
   ·split at h
    ·exact hk 3 (by assumption)
    ·simp only at h;omega
theorem postPutT_ok {p:PlanM}{u:V6}{t v:Int}{s:St}(hp:p.Wf)(hu:UIn p u)(ht0:0≤t∧t≤4294967295):UIn p ((postPutT p u t v).exec s).1.2∧U32 ((postPutT p u t v).exec s).1.1:=by
 unfold postPutT
 split
 ·exact⟨hu.zero,⟨by show(0:Int)≤0;decide,by show(0:Int)≤4294967295;decide⟩⟩
 ·rename_i hh
  have hh:(p.next t).2=true:=by simpa using hh
  split
  ·rename_i h1
   obtain⟨k,hk,hkn⟩:∃k:Nat,k≤3∧(p.cls t).1=(k:Int):=by
    rcases next_range p t hh with⟨_,k,h2,h3,_⟩|⟨k,_,h2⟩
    ·exact⟨k,h2,h3⟩
    ·omega
   have:=cls_lt hp hkn;rw[Tree.exec_bind];refine⟨hu,?_⟩;show U32 (t+1);unfold U32;omega
  ·rename_i h1
   obtain⟨k,hk,hkn⟩:∃k:Nat,k≤3∧(p.next t).1=(k:Int):=by
    rcases next_range p t hh with⟨h2,_⟩|h2
    ·omega
    ·exact h2
   obtain⟨hu0,hu1⟩:=hu.uK hk;rw[hkn];simp only[Int.toNat_natCast];have hz:=szK_bd k
   split
   ·exact⟨hu.zero,⟨by show(0:Int)≤0;decide,by show(0:Int)≤4294967295;decide⟩⟩
   ·rename_i hf
    rw[Tree.exec_bind];refine⟨hu.up hk (by omega) (by omega),?_⟩
    show U32 (p.bK k+u.uK k+1);have h2:=hp.b k;have h3:=hp.s k;unfold U32;omega
theorem post_put {w:World}{K:Nat→Prop}{r m c:Nat}{s:St}(h:RM w K r m c s)(hK0:K 0)(ht:PTab w)(p:PlanM)(hp:p.Wf)(u:V6)(t v:Int)(ht0:0≤t∧t≤4294967295)(hv:U32 v)(hu:UIn p u):
  Calls Tryz.prog 83 #[.pointer (some ⟨r,0,none⟩),p.val,u.val,I t,J v] w fun e w'=>
   (∃x:Int,e= .returned (.tuple #[I ((postPutT p u t v).exec s).1.1,V6.val ((postPutT p u t v).exec s).1.2,I x]))∧RM w' K r m c ((postPutT p u t v).exec s).2∧Keeps K w w':=by
 unfold postPutT
 split
 ·rename_i hh
  refine(put_bad h hK0 ht p hp u t v ht0 hv (next_bad hh)).mono ?_;rintro e w' ⟨rfl,h1,h2⟩;exact⟨⟨_,rfl⟩,h1,h2⟩
 ·rename_i hh
  have hh:(p.next t).2=true:=by simpa using hh
  split
  ·rename_i h1
   have hn:p.next t=(-1,true):=by
    rcases next_range p t hh with⟨h2,_⟩|⟨k,_,h2⟩
    ·exact Prod.ext h2 hh
    ·omega
   refine(put_in h hK0 ht p hp u t v ht0 hv hn).mono ?_;exact c141
  ·rename_i h1
   obtain⟨k,hk,hkn⟩:∃k:Nat,k≤3∧(p.next t).1=(k:Int):=by
    rcases next_range p t hh with⟨h2,_⟩|h2
    ·omega
    ·exact h2
   have hn:p.next t=((k:Int),true):=Prod.ext hkn hh
   obtain⟨hu0,hu1⟩:=hu.uK hk;rw[hkn];simp only[Int.toNat_natCast]
   split
   ·rename_i hf
    refine(put_full h hK0 ht p hp u t v k hk ht0 hv hn hu0 hu1 hf).mono ?_;rintro e w' ⟨rfl,h1,h2⟩;exact⟨⟨_,rfl⟩,h1,h2⟩
   ·rename_i hf
    refine(put_new h hK0 ht p hp u t v k hk ht0 hv hn hu0 (by omega)).mono ?_
    exact c141
theorem dict_put_any {w:World}{K:Nat→Prop}{r m c:Nat}{s:St}(h:RM w K r m c s)(p:PlanM)(u:V6)(s0 sl:Int)(t:ByteArray)(ht:t.size≤1000)
  (hu:UIn p u) (h3:p.size.a4≤65536) (hpb:0≤p.base.a4∧p.base.a4≤65536) (hs0:0≤s0∧s0≤65536) (hsl: -1≤sl∧sl≤65536):
  Calls Tryz.prog 81 #[.pointer (some ⟨r,0,none⟩),p.val,u.val,I s0,I sl,.string t] w fun e w'=>
   (∃x:Int,e= .returned (.tuple #[I ((dictPutT p u s0 sl t).exec s).1.1,V6.val ((dictPutT p u s0 sl t).exec s).1.2,I x]))∧
    RM w' K r m c ((dictPutT p u s0 sl t).exec s).2∧Keeps K w w':=by
 obtain⟨hu0,hu1⟩:=hu.2.2.2.2.1;unfold dictPutT
 split
 ·rename_i hh
  refine(dict_put_full h p u s0 sl t ht hu0 hu1 hh h3 ).mono ?_;rintro e w' ⟨rfl,h1,h2⟩;exact⟨⟨_,rfl⟩,h1,h2⟩
 ·rename_i hh
  refine(dict_put h p u s0 sl t ht hu0 (by omega) h3 hpb hs0 hsl).mono ?_
  exact c141
theorem dictPutT_ok {p:PlanM}{u:V6}{s0 sl:Int}{t:ByteArray}{s:St}(hu:UIn p u):UIn p ((dictPutT p u s0 sl t).exec s).1.2:=by
 unfold dictPutT
 split
 ·exact hu.zero
 ·rename_i hh
  rw[Tree.exec_bind];obtain⟨h0,h1,h2,h3,h4,h5⟩:=hu;show UIn p { u with a4:=u.a4+(2+(((t.size+3)/4:Nat):Int)) }
  unfold UIn;dsimp only
  omega
theorem key_same {s t:ByteArray}(h:(s.toList==t.toList)=true):s=t:=by
 have h:=eq_of_beq h;rw[ByteArray.toList_eq,ByteArray.toList_eq]at h;have h2:s.data=t.data:=Array.toList_inj.1 h
 cases s;cases t;simp_all
structure P1 (w W:World)(K:Nat→Prop)(r m c B B' kb:Nat)(A:Option Addr)(n cp:Nat)(p:PlanM)(u:V6)(x:TokI)(key:ByteArray)(all:List TermM)(s:St):Prop where
 rm:RM W (fun b=>(K b∨(Value.slice A n cp).ownBlock=some b)∨(B≤b∧b<B')) r m c s
 own:TermOwn W K (.slice A all.length cp) all
 kp:Keeps K w W
 b0:Blk W B p.flat
 b1:Blk W (B+1) u.list
 b2:Blk W (B+1+1) (tokI x)
 b3:Blk W (B+1+1+1) zero6.list
 bk:Blk W kb [.string key]
 len:all.length=n
 h0:B+1+1+1<kb∧kb<B'
 lt:∀b,K b∨(Value.slice A n cp).ownBlock=some b→b<B
theorem P1.keep {w W W':World}{K:Nat→Prop}{r m c B B' kb:Nat}{A:Option Addr}{n cp:Nat}{p:PlanM}{u:V6}{x:TokI}{key:ByteArray}{all:List TermM}{s s':St}(h:P1 w W K r m c B B' kb A n cp p u x key all s)
  (h1:RM W' (fun b=>(K b∨(Value.slice A n cp).ownBlock=some b)∨(B≤b∧b<B')) r m c s') (h2:Keeps (fun b=>(K b∨(Value.slice A n cp).ownBlock=some b)∨(B≤b∧b<B')) W W'):P1 w W' K r m c B B' kb A n cp p u x key all s':=by
 obtain⟨g1,g2⟩:=h.h0;refine⟨h1,⟨own_of_keep h.own.1 h2 fun b hb=>Or.inl (Or.inr (by rw[←h.len];exact hb)),h.own.2⟩,h.kp.trans (h2.mono fun b hb=>Or.inl (Or.inl hb)),h.b0.keep h2 (Or.inr (by omega)),h.b1.keep h2 (Or.inr (by omega)),h.b2.keep h2 (Or.inr (by omega)),h.b3.keep h2 (Or.inr (by omega)),h.bk.keep h2 (Or.inr (by omega)),h.len,h.h0,h.lt⟩
theorem P1.set {w W:World}{K:Nat→Prop}{r m c B B' kb g:Nat}{n cp:Nat}{p:PlanM}{u:V6}{x:TokI}{key:ByteArray}{all:List TermM}{s:St}(h:P1 w W K r m c B B' kb (some ⟨g,0,none⟩) n cp p u x key all s)
  {i j:Nat} {a a':TermM} {v:Value} (hi:all[i]? =some a) (hj:j<4) (he:a'.cells=a.cells.set j v):P1 w (W.setCell ⟨g,i*4+j,none⟩ v) K r m c B B' kb (some ⟨g,0,none⟩) n cp p u x key (all.set i a') s:=by
 obtain⟨g1,g2⟩:=h.h0;have hg:=h.lt g (Or.inr rfl);have hO:=own_recSet TermM.len4 h.own.1 (a':=a') (u:=v) hi hj he;have hne:∀b,B≤b→b≠g:=fun b hb e=>by omega
 refine⟨h.rm.setK (a:=⟨g,i*4+j,none⟩) (Or.inl (Or.inr rfl)) v,⟨hO,fun b hb=>h.own.2 b (by rw[List.length_set]at hb;exact hb)⟩,h.kp.setCell (p:=⟨g,i*4+j,none⟩) (h.own.2 g rfl) v,h.b0.set_ne v (hne _ (by omega)),h.b1.set_ne v (hne _ (by omega)),h.b2.set_ne v (hne _ (by omega)),h.b3.set_ne v (hne _ (by omega)),h.bk.set_ne v (hne _ (by omega)),by rw[List.length_set];exact h.len,h.h0,h.lt⟩
theorem P1.setU {w W:World}{K:Nat→Prop}{r m c B B' kb:Nat}{A:Option Addr}{n cp:Nat}{p:PlanM}{u:V6}{x:TokI}{key:ByteArray}{all:List TermM}{s:St}(h:P1 w W K r m c B B' kb A n cp p u x key all s)(a0 a1 a2 a3 a4 a5:Int):
  P1 w ((((((W.setCell ⟨B+1,0,none⟩ (I a0)).setCell ⟨B+1,1,none⟩ (I a1)).setCell ⟨B+1,2,none⟩ (I a2)).setCell ⟨B+1,3,none⟩ (I a3)).setCell ⟨B+1,4,none⟩ (I a4)).setCell ⟨B+1,5,none⟩ (I a5)) K r m c B B' kb A n cp p ⟨a0,a1,a2,a3,a4,a5⟩ x key all s:=by
 obtain⟨g1,g2⟩:=h.h0;have hb:(fun b=>(K b∨(Value.slice A n cp).ownBlock=some b)∨(B≤b∧b<B')) (B+1):=Or.inr (by omega)
 have hK:¬K (B+1):=fun hk=>by have:=h.lt _ (Or.inl hk);omega
 have ho:∀W':World,W'.ownsRow 0 154 4 (.slice A all.length cp) all.length (all.flatMap TermM.cells)→∀i v,(W'.setCell ⟨B+1,i,none⟩ v).ownsRow 0 154 4 (.slice A all.length cp) all.length (all.flatMap TermM.cells):=fun W' hW i v=>
  ownsRow_setCell_other hW (a:=⟨B+1,i,none⟩) (fun e=>by have:=h.lt (B+1) (Or.inr (by rw[←h.len];exact e));omega) v
 refine⟨(((((h.rm.setK (a:=⟨B+1,0,none⟩) hb _).setK (a:=⟨B+1,1,none⟩) hb _).setK (a:=⟨B+1,2,none⟩) hb _).setK (a:=⟨B+1,3,none⟩) hb _).setK (a:=⟨B+1,4,none⟩) hb _).setK (a:=⟨B+1,5,none⟩) hb _,
  ⟨ho _ (ho _ (ho _ (ho _ (ho _ (ho _ h.own.1 _ _) _ _) _ _) _ _) _ _) _ _,h.own.2⟩,h.kp.set6 _ _ _ _ _ _ hK,h.b0.set6_ne _ _ _ _ _ _ (by omega),h.b1.set6 _ _ _ _ _ _ rfl,h.b2.set6_ne _ _ _ _ _ _ (by omega),h.b3.set6_ne _ _ _ _ _ _ (by omega),h.bk.set6_ne _ _ _ _ _ _ (by omega),h.len,h.h0,h.lt⟩
theorem P1.drew {w W:World}{K:Nat→Prop}{r m c B B' kb:Nat}{A:Option Addr}{n cp:Nat}{p:PlanM}{u:V6}{x:TokI}{key:ByteArray}{all:List TermM}{s:St}(h:P1 w W K r m c B B' kb A n cp p u x key all s):P1 w W.drew K r m c B B' kb A n cp p u x key all s:=
 h.keep h.rm.drew (Keeps.refl _ _).drew
def S7 (B g o:Nat)(p:PlanM)(u:V6)(tt:Int)(W:World):Prop:=W.cell? ⟨B,0,none⟩=some (.int .i64 p.base.a0)∧W.cell? ⟨B,1,none⟩=some (.int .i64 p.base.a1)∧W.cell? ⟨B,2,none⟩=some (.int .i64 p.base.a2)∧W.cell? ⟨B,3,none⟩=some (.int .i64 p.base.a3)∧W.cell? ⟨B,4,none⟩=some (.int .i64 p.base.a4)∧W.cell? ⟨B,5,none⟩=some (.int .i64 p.base.a5)∧W.cell? ⟨B,6,none⟩=some (.int .i64 p.size.a0)∧W.cell? ⟨B,7,none⟩=some (.int .i64 p.size.a1)∧W.cell? ⟨B,8,none⟩=some (.int .i64 p.size.a2)∧W.cell? ⟨B,9,none⟩=some (.int .i64 p.size.a3)∧W.cell? ⟨B,10,none⟩=some (.int .i64 p.size.a4)∧W.cell? ⟨B,11,none⟩=some (.int .i64 p.size.a5)∧W.cell? ⟨B,12,none⟩=some (.int .i64 p.cells)∧W.cell? ⟨B,13,none⟩=some (.int .i64 p.slots)∧W.cell? ⟨B,14,none⟩=some (.int .i64 p.live)∧W.cell? ⟨B+1,0,none⟩=some (.int .i64 u.a0)∧W.cell? ⟨B+1,1,none⟩=some (.int .i64 u.a1)∧W.cell? ⟨B+1,2,none⟩=some (.int .i64 u.a2)∧W.cell? ⟨B+1,3,none⟩=some (.int .i64 u.a3)∧W.cell? ⟨B+1,4,none⟩=some (.int .i64 u.a4)∧W.cell? ⟨B+1,5,none⟩=some (.int .i64 u.a5)∧W.cell? ⟨g,o,none⟩=some (.int .i64 tt)
theorem P1.s7 {w W:World}{K:Nat→Prop}{r m c B B' kb g:Nat}{n cp:Nat}{p:PlanM}{u:V6}{x:TokI}{key:ByteArray}{all:List TermM}{s:St}(h:P1 w W K r m c B B' kb (some ⟨g,0,none⟩) n cp p u x key all s){i:Nat}{t:TermM}(hi:all[i]? =some t):S7 B g (i*4+2) p u t.tl W:=by
 have h0:=h.b0;have h1:=h.b1;unfold PlanM.flat at h0;unfold V6.list at h1;obtain⟨g',e,hc⟩:=own_rec TermM.len4 h.own.1 hi;injection e with e
 injection e with e
 subst e;exact⟨h0.cell 0,h0.cell 1,h0.cell 2,h0.cell 3,h0.cell 4,h0.cell 5,h0.cell 6,h0.cell 7,h0.cell 8,h0.cell 9,h0.cell 10,h0.cell 11,h0.cell 12,h0.cell 13,h0.cell 14,h1.cell 0,h1.cell 1,h1.cell 2,h1.cell 3,h1.cell 4,h1.cell 5,hc 2 _ (by decide) rfl⟩
end Go.Proofs.YtogdknnkhkjmcaaGreatDoor
