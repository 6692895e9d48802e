/- A region that draws its order: its head is quiet in a class of worlds, its tail comes in order (a store at its end): one walk. -/
import Derived.Test.YtogdknnkhkjmcaaGreatDoorJRcE
namespace Go.Proofs.YtogdknnkhkjmcaaGreatDoor
open Go.RowKit
set_option linter.all false
section
variable {P:Program}{ops:Array Oper}{md:Region.Mode}{C:World→Prop}
def wpAnyLQ (P:Program)(md:Region.Mode)(ops:Array Oper)(C:World→Prop)(n:Nat)(L:Array Bool→Act→Prop):Nat→Array Bool→Act→Prop
 |0,listed,a=>L listed a
 |f+1,listed,a=>Region.ready md ops listed≠[]∧∀i∈Region.ready md ops listed,i<n∧qOp P ops C i (wpAnyLQ P md ops C n L f (listed.setIfInBounds i true)) a
theorem wpAny_of_headQ {n g:Nat}{L:Array Bool→Act→Prop}{Q':Exit→Act→World→Prop}(hL:∀listed a w,C w→L listed a→wpAny P md ops Q' g listed a w):
  ∀(f:Nat) (listed:Array Bool) (a:Act) (w:World),C w→wpAnyLQ P md ops C n L f listed a→wpAny P md ops Q' (f+g) listed a w
 |0,listed,a,w,hw,h=>by rw[Nat.zero_add];exact hL _ _ _ hw h
 |f+1,listed,a,w,hw,h=>by
  rw[show f+1+g=(f+g)+1 by omega]
  exact⟨fun h0=>absurd h0 h.1,fun i hi=>wpOp_of_qOp hw (fun a' w' hw' h'=>wpAny_of_headQ hL f _ a' w' hw' h') (h.2 i hi).2⟩
theorem wpAnyLQ_first {n i:Nat}{oi:Oper}{v:Value}{L:Array Bool→Act→Prop}(hi:ops[i]? =some oi)(hsel:∀(j:Nat)(o:Oper) cs b,ops[j]? =some o→o.op≠ .select cs b)
  (hs:Region.sinkB md ops n=true) (hc:Region.chainB md ops n=true) (hn:n<ops.size) (hin:i<n)
  (hdone:∀listed a,L listed a→∀j∈Region.ready md ops listed,n≤j):
  ∀(f:Nat) (listed:Array Bool) (a:Act),HeadInv md ops n listed→
   (∀j oj,ops[j]? =some oj→j≠i→listed.getD j true=false→(∀e∈oj.after,Region.binds md e=true→e.on≠i)→oi.apart ops oj=true)→
   i∈Region.ready md ops listed→YieldsIn P ops C oi v a→
   wpAnyLQ P md ops C n L f (listed.setIfInBounds i true) (a.put oi.dst v)→wpAnyLQ P md ops C n L (f+1) listed a:=by
 intro f
 induction f with
 |zero=>
  intro listed a inv _ hr hy H;have hun:=(mem_ready.1 hr).1;refine⟨fun h=>(by rw[h]at hr;cases hr),fun j hj=>?_⟩
  have hjn:j<n:=by
   rcases Nat.lt_or_ge j n with h|h
   ·exact h
   ·exact absurd hj (tail_waits hs hc hn inv _ i rfl hin hun j h)
  refine⟨hjn,?_⟩
  by_cases hji:j=i
  ·subst hji;exact hy.qOp hi H
  ·have:=hdone _ _ H j (ready_mono hj hji)
   omega
 |succ f ih=>
  intro listed a inv hfree hr hy H;have hun:=(mem_ready.1 hr).1;refine⟨fun h=>(by rw[h]at hr;cases hr),fun j hj=>?_⟩
  have hjn:j<n:=by
   rcases Nat.lt_or_ge j n with h|h
   ·exact h
   ·exact absurd hj (tail_waits hs hc hn inv _ i rfl hin hun j h)
  refine⟨hjn,?_⟩
  by_cases hji:j=i
  ·subst hji;exact hy.qOp hi H
  ·have h1:=(H.2 j (ready_mono hj hji)).2;obtain⟨hjun,oj,hoj,hall⟩:=mem_ready.1 hj;have hnot:∀e∈oj.after,Region.binds md e=true→e.on≠i:=fun e he hb heq=>by
    have h1:=hall e he hb;rw[heq,getD_both hun]at h1
    cases h1
   have h2:=qOp_put hoj (hfree j oj hoj hji hjun hnot) (fun cs b=>hsel i oi cs b hi) (fun cs b=>hsel j oj cs b hoj) hy h1;have hfree':∀k ok,ops[k]? =some ok→k≠i→(listed.setIfInBounds j true).getD k true=false→
     (∀e∈ok.after,Region.binds md e=true→e.on≠i)→oi.apart ops ok=true:=fun k ok hk hki hun hno=>by
    refine hfree k ok hk hki ?_ hno
    by_cases hjk:j=k
    ·subst hjk;exact hjun
    ·rw[getD_set_ne true hjk]at hun;exact hun
   refine qOp_mono (fun a' h3=>ih (listed.setIfInBounds j true) a' (inv.set hj hjn) hfree' (ready_mono hr (Ne.symm hji)) h3.1 ?_) h2;rw[Array.setIfInBounds_comm _ _ hji];exact h3.2
theorem wpAnyLQ_lex {n g:Nat}{Lq:Act→Prop}(hsel:Region.noSelect ops=true)(hs:Region.sinkB md ops n=true)(hc:Region.chainB md ops n=true)(hn:n<ops.size):
  ∀(l:List Oper) (k:Nat) (listed:Array Bool) (a:Act),(∀j,j<l.length→l[j]? =ops[k+j]?)→k+l.length=n→HeadInv md ops n listed→
  Region.lexHead md ops g l.length k listed=true→wpQuiet P ops C Lq l a→
  wpAnyLQ P md ops C n (fun listed' a'=>Region.seqB md ops g n listed'=true∧Lq a') l.length listed a
 | [],k,listed,a,_,hk,_,hB,h=>by
  have:k=n:=by simpa using hk
  subst this;exact⟨by simpa[Region.lexHead]using hB,h⟩
 |o::l,k,listed,a,hl,hk,inv,hB,h=>by
  have h0:ops[k]? =some o:=by simpa using(hl 0 (by simp)).symm
  simp only[List.length_cons,Region.lexHead,Bool.and_eq_true]at hB;obtain⟨⟨hr,hf⟩,hB'⟩:=hB;have hkn:k<n:=by simp only[List.length_cons]at hk;omega
  have hr':k∈Region.ready md ops listed:=by simpa using hr
  have hst:qOp P ops C k (wpQuiet P ops C Lq l) a:=by unfold qOp;simp only[h0];exact h
  obtain⟨v,hy,hK⟩:=yieldsIn_of_qOp h0 hst;exact wpAnyLQ_first h0 (Region.noSelect_spec hsel) hs hc hn hkn (fun listed' a' hL=>seqB_ready hL.1) l.length listed a inv (Region.free_spec h0 hf) hr' hy
   (wpAnyLQ_lex hsel hs hc hn l (k+1) _ _ (fun j hj=>by have:=hl (j+1) (by simp;omega);simpa[Nat.add_assoc,Nat.add_comm 1 j]using this) (by simp only[List.length_cons]at hk;omega) (inv.set hr' hkn) hB' hK)
theorem wp_region_quiet_tail {id:Nat}{Q:Exit→Act→World→Prop}{a:Act}{w:World}{l:List Oper}(n:Nat)(hm:P.follows .mixedOrders=true)(hB:Region.lexTailB .any l.toArray n=true)(hC:C { w with drawn:=w.drawn+1 })
  (h:wpQuiet P l.toArray C (fun a'=>∀w',C w'→wpList P l.toArray Q (l.drop n) a' w') (l.take n) a):(Code.region id l.toArray true).wp P Q a w:=by
 simp only[Region.lexTailB,Bool.and_eq_true,decide_eq_true_eq]at hB;obtain⟨⟨⟨⟨hsel,hn⟩,hs⟩,hc⟩,hlex⟩:=hB;have hn':n<l.length:=by simpa using hn
 have htl:(l.take n).length=n:=by simp;omega
 have hdl:(l.drop n).length=l.toArray.size-n:=by simp
 have inv0:HeadInv .any l.toArray n (Array.replicate l.toArray.size false):=
  ⟨by simp,fun j oj _ hl=>(by rw[getD_replicate_false]at hl;cases hl),fun t _ ht=>getD_in (by simpa using ht) (getD_replicate_false _ _)⟩
 have H:=wpAnyLQ_lex (md:= .any) (C:=C) (g:=l.toArray.size-n) hsel hs hc hn (l.take n) 0 _ a (fun j hj=>by
  have hj':j<n:=by rw[htl]at hj;exact hj
  simp[hj']) (by simpa using htl) inv0 (by rw[htl];exact hlex) h
 refine wp_region_any hm ?_;have:=wpAny_of_headQ (C:=C) (Q':=Q) (g:=l.toArray.size-n) (fun listed a' w' hw' hL=>by
  have:=wpAny_of_seq (md:= .any) (Q':=Q) (l.drop n) n listed a' w' (fun j=>by simp[List.getElem?_drop]) (by rw[hdl];exact hL.1) (hL.2 w' hw')
  rwa [hdl]at this) _ _ _ _ hC H
 rw[htl,show n+(l.toArray.size-n)=l.toArray.size by omega]at this
 exact this
end
structure KC (K:Nat→Prop)(W:World) where
 w:World
 k:Keeps K W w
instance KC.ne (K:Nat→Prop)(W:World):Nonempty (KC K W):=⟨⟨W,Keeps.refl _ _⟩⟩
theorem wp_region_kc_tail {P:Program}{id:Nat}{Q:Exit→Act→World→Prop}{a:Act}{w:World}{l:List Oper}(K:Nat→Prop)(n:Nat)(hm:P.follows .mixedOrders=true)(hB:Region.lexTailB .any l.toArray n=true)
  (h:wpQuiet P l.toArray (fun w'=>∃p:KC K w,w'=p.w) (fun a'=>∀w',(∃p:KC K w,w'=p.w)→wpList P l.toArray Q (l.drop n) a' w') (l.take n) a):(Code.region id l.toArray true).wp P Q a w:=
 wp_region_quiet_tail (C:=fun w'=>∃p:KC K w,w'=p.w) n hm hB ⟨⟨w.drew,(Keeps.refl _ _).drew⟩,rfl⟩ h
theorem wp_region_kc {P:Program}{id:Nat}{Q:Exit→Act→World→Prop}{a:Act}{w:World}{l:List Oper}(K:Nat→Prop)(hm:P.follows .mixedOrders=true)(hB:Region.lexB .any l.toArray=true)
  (h:wpQuiet P l.toArray (fun w'=>∃p:KC K w,w'=p.w) (fun a'=>∀w',(∃p:KC K w,w'=p.w)→Q .normal a' w') l a):(Code.region id l.toArray true).wp P Q a w:=
 wp_region_quiet (C:=fun w'=>∃p:KC K w,w'=p.w) hm hB ⟨⟨w.drew,(Keeps.refl _ _).drew⟩,rfl⟩ (by simpa using h)
theorem KC.calls {P:Program}{f:FuncId}{args:Array Value}{W:World}{K:Nat→Prop}(p:KC K W){v:Value}(h:Calls P f args p.w fun e w'=>e= .returned v∧Keeps K p.w w'):Calls P f args p.w fun e w'=>e= .returned v∧∃q:KC K W,w'=q.w:=
 h.mono fun _ w' ⟨he,hk⟩=>⟨he,⟨w',p.k.trans hk⟩,rfl⟩
theorem KC.cell {W:World}{K:Nat→Prop}{b o:Nat}{v:Value}(p:KC K W)(hb:K b)(h:W.cell? ⟨b,o,none⟩=some v):p.w.cell? ⟨b,o,none⟩=some v:=(World.cell?_of_block (p.k.block b hb)).trans h
set_option maxHeartbeats 1000000 in
theorem same_key (t:TermM)(key:ByteArray)(kb:Nat)(w:World)(hk:w.cell? ⟨kb,0,none⟩=some (.string key))(hkl:kb<w.heap.size):
  Calls Tryz.prog 80 #[.agg #[.string t.key,I t.recd,I t.tl,I t.cnt],.pointer (some ⟨kb,0,none⟩)] w fun e w'=>e= .returned (.bool (t.key.toList==key.toList))∧Keeps (· <w.heap.size) w w':=by
 refine calls_hide fun R' hR'=>?_;obtain⟨tk,t1,t2,t3⟩:=t;dsimp only at*
 go_enter Tryz.func80,Tryz.ntmps80
 go_wp2_with fail
 exact hR'.out _ _ ⟨rfl,(Keeps.refl _ _).alloc (fun b hb=>hb) _⟩
theorem keyIx_min {key:ByteArray}{l:List TermM}{j:Nat}{t:TermM}(h:l[j]? =some t)(hj:j<keyIx key l):(t.key.toList==key.toList)=false:=by
 obtain⟨hl,rfl⟩:=List.getElem?_eq_some_iff.1 h;have:=List.not_of_lt_findIdx (p:=fun t:TermM=>t.key.toList==key.toList) (xs:=l) (i:=j) hj
 simpa using this
theorem keyIx_hit {key:ByteArray}{l:List TermM}{t:TermM}(h:l[keyIx key l]? =some t):(t.key.toList==key.toList)=true:=by
 obtain⟨hl,rfl⟩:=List.getElem?_eq_some_iff.1 h;exact List.findIdx_getElem (p:=fun t:TermM=>t.key.toList==key.toList) (xs:=l) (w:=hl)
set_option maxRecDepth 100000 in
set_option maxHeartbeats 2000000 in
theorem index_func (all:List TermM)(A:Option Addr)(cp:Nat)(key:ByteArray)(t0:TermM)(kb:Nat)(w:World)(hk:w.cell? ⟨kb,0,none⟩=some (.string key))(hkl:kb<w.heap.size)(hl:all.length≤65536)
  (hown:w.ownsRow 0 154 4 (.slice A all.length cp) all.length (all.flatMap TermM.cells)) (h0:all[keyIx key all]? =some t0):
  Calls Tryz.prog 79 #[.slice A all.length cp,.func (.func 80) #[] #[.pointer (some ⟨kb,0,none⟩)]] w fun e w'=>e= .returned (I (keyIx key all:Nat))∧Keeps (· <w.heap.size) w w':=by
 have hol:∀b,(Value.slice A all.length cp).ownBlock=some b→b<w.heap.size:=fun b hb=>(hown.lt b hb).2;have hkx:=(List.getElem?_eq_some_iff.1 h0).1;have Hown:=hid hown;have H0:=hid h0;have Hk:=hid hk;have Hol:=hid hol;clear hown h0 hk hol;refine calls_hide fun R' hR'=>?_
 go_enter Tryz.func79,Tryz.ntmps79
 go_wp2_with fail
 go_loopw[8] (fun iv wx=>∃(i:Nat),iv=I (i:Int)∧i≤keyIx key all∧Hid (Keeps (· <w.heap.size) w wx)) (fun iv _=>all.length-(intOf iv).toNat)
 case atStart=>exact⟨0,rfl,Nat.zero_le _,hid (Keeps.refl _ _)⟩
 case round=>
  obtain⟨i,rfl,hi,HK⟩:=hrel;have hlt:i<all.length:=by omega
  have hltI:(i:Int)<(all.length:Int):=by omega
  obtain⟨t,hx⟩:∃x,all[i]? =some x:=⟨_,List.getElem?_eq_getElem hlt⟩;have hO:=own_of_keep Hown.out HK.out Hol.out;obtain⟨g,rfl,gc⟩:=own_rec TermM.len4 hO hx;have a0:=gc 0 _ (by decide) rfl
  have a1:=gc 1 _ (by decide) rfl
  have a2:=gc 2 _ (by decide) rfl
  have a3:=gc 3 _ (by decide) rfl
  simp only[Nat.add_zero]at a0;have hcall:=fun W h1 h2=>same_key t key kb W h1 h2;have hmin:i<keyIx key all→(t.key.toList==key.toList)=false:=fun h=>keyIx_min hx h;have hhit:i=keyIx key all→(t.key.toList==key.toList)=true:=fun h=>by subst h;obtain rfl:=Option.some.inj (H0.out.symm.trans hx);exact keyIx_hit H0.out
  have hkw:=(World.cell?_of_block (a:=⟨kb,0,none⟩) (HK.out.block kb hkl)).trans Hk.out;have hks:=Nat.lt_of_lt_of_le hkl HK.out.size;obtain⟨tk,tr,tt,tc⟩:=t;dsimp only at hcall hmin hhit;have hc2:=hcall wr hkw hks;have a0:wr.cell? ⟨g,i*4,none⟩=some (.string tk):=a0;have a1:wr.cell? ⟨g,i*4+1,none⟩=some (I tr):=a1;have a2:wr.cell? ⟨g,i*4+2,none⟩=some (I tt):=a2
  have a3:wr.cell? ⟨g,i*4+3,none⟩=some (I tc):=a3;clear gc hcall hO hx hkw hks;generalize (tk.toList==key.toList)=bb at*
  by_cases hik:i=keyIx key all
  ·have hbb:=hhit hik;subst hbb;clear hmin hhit;have Hc2:=hid hc2;have Hik:=hid hik;clear hc2 hik
   go_wp2_with (go_at_call 80;refine Hc2.out.mono ?_;rintro e w2 ⟨rfl,hk2⟩)
   refine hR'.out _ _ ⟨?_,HK.out.trans (hk2.mono fun b hb=>Nat.lt_of_lt_of_le hb HK.out.size)⟩;rw[←Hik.out];rfl
  ·have hbb:=hmin (by omega)
   subst hbb;clear hmin hhit;have Hc2:=hid hc2;clear hc2
   go_wp2_with (go_at_call 80;refine Hc2.out.mono ?_;rintro e w2 ⟨rfl,hk2⟩)
   have hK2:=HK.out.trans (hk2.mono fun b hb=>Nat.lt_of_lt_of_le hb HK.out.size)
   go_roundw
   case rel=>exact⟨i+1,by go_num,by omega,hid hK2⟩
   case measure=>exact msA
set_option maxRecDepth 100000 in
set_option maxHeartbeats 1000000 in
theorem take_room (p:PlanM)(u:V6)(n:Int)(w:World)(h1:1≤n)(h0:0≤u.a5)(h2:u.a5+n≤p.size.a5)(h3:p.size.a5≤65536)(hb:0≤p.base.a5∧p.base.a5≤65536):
  Calls Tryz.prog 43 #[p.val,u.val,I 5,I n] w fun e w'=>
   e= .returned (.tuple #[I (p.base.a5+u.a5),V6.val { u with a5:=u.a5+n },I 0])∧Keeps (· <w.heap.size) w w':=by
 have zz162:=@c769;exact c763
theorem bits_word (d pos:Int)(hd:0≤d∧d≤65535)(hp:0≤pos∧pos≤65535):bits .or .u32 (d*65536) pos=65536*d+pos:=by
 obtain⟨d,rfl⟩:=Int.eq_ofNat_of_zero_le hd.1;obtain⟨pos,rfl⟩:=Int.eq_ofNat_of_zero_le hp.1;have hx:pos<2^16:=by omega
 show IntKind.u32.wrap ((BitVec.ofInt 32 ((d:Int)*65536)|||BitVec.ofInt 32 (pos:Int)).toNat:Int)=_
 have e1:(BitVec.ofInt 32 (pos:Int)).toNat=pos:=by
  rw[BitVec.toNat_ofInt];omega
 have e2:(BitVec.ofInt 32 ((d:Int)*65536)).toNat=d*2^16:=by
  rw[BitVec.toNat_ofInt];omega
 rw[BitVec.toNat_or,e1,e2,←Nat.shiftLeft_eq,←Nat.shiftLeft_add_eq_or_of_lt hx d,Nat.shiftLeft_eq];rw[IntWalk.u32_in _ (by omega)]
 omega
theorem wordOf_in (d pos:Int):U32 (wordOf d pos):=by
 unfold wordOf U32
 split<;>omega
set_option maxHeartbeats 1000000 in
theorem pack_word (d pos:Int)(w:World):Calls Tryz.prog 82 #[I d,I pos] w fun e w'=>(∃x:Int,e= .returned (.tuple #[J (wordOf d pos),I x]))∧w'=w:=by
 by_cases hh:d<0∨65535<d∨pos<0∨65535<pos
 ·have hw:wordOf d pos=0:=by unfold wordOf;rw[if_pos hh]
  rw[hw];refine calls_hide fun R' hR'=>?_
  by_cases h1:d<0
  ·have g1:decide (d<0)=true:=decide_eq_true h1
   go_enter Tryz.func82,Tryz.ntmps82
   exact c86
  have g1:decide (d<0)=false:=decide_eq_false h1
  by_cases h2:65535<d
  ·have g2:decide (65535<d)=true:=decide_eq_true h2
   go_enter Tryz.func82,Tryz.ntmps82
   exact c86
  have g2:decide (65535<d)=false:=decide_eq_false h2
  by_cases h3:pos<0
  ·have g3:decide (pos<0)=true:=decide_eq_true h3
   go_enter Tryz.func82,Tryz.ntmps82
   exact c86
  have g3:decide (pos<0)=false:=decide_eq_false h3;have g4:decide (65535<pos)=true:=decide_eq_true (by omega)
  go_enter Tryz.func82,Tryz.ntmps82
  exact c86
 ·have hd:0≤d∧d≤65535:=by omega
  have zz47:=@c303;exact c302
set_option maxHeartbeats 1000000 in
theorem ref_word (d pos:Int)(w:World):Calls Tryz.prog 94 #[I d,I pos] w fun e w'=>(∃x:Int,e= .returned (.tuple #[J (wordOf d pos),I x]))∧w'=w:=by
 by_cases hh:d<0∨65535<d∨pos<0∨65535<pos
 ·have hw:wordOf d pos=0:=by unfold wordOf;rw[if_pos hh]
  rw[hw];refine calls_hide fun R' hR'=>?_
  by_cases h1:d<0
  ·have g1:decide (d<0)=true:=decide_eq_true h1;exact c457
  have g1:decide (d<0)=false:=decide_eq_false h1
  by_cases h2:65535<d
  ·have g2:decide (65535<d)=true:=decide_eq_true h2;exact c457
  have g2:decide (65535<d)=false:=decide_eq_false h2
  by_cases h3:pos<0
  ·have g3:decide (pos<0)=true:=decide_eq_true h3;exact c457
  have g3:decide (pos<0)=false:=decide_eq_false h3;have g4:decide (65535<pos)=true:=decide_eq_true (by omega)
  exact c457
 ·have hd:0≤d∧d≤65535:=by omega
  have zz47:=@c304;exact c302
end Go.Proofs.YtogdknnkhkjmcaaGreatDoor
