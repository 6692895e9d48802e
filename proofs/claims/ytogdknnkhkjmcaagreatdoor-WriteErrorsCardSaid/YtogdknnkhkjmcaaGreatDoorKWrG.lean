/- Lemmas on the programs that the statement reaches. -/
import Derived.Test.YtogdknnkhkjmcaaGreatDoorKWrS
namespace Go.Proofs.YtogdknnkhkjmcaaGreatDoor
open Go.RowKit
set_option linter.all false
def atL (cs:List Int)(a:Int):Int×Bool:=if 0≤a∧a<cs.length then(cs.getD a.toNat 0,true)else(0,false)
set_option maxHeartbeats 1000000 in
theorem ref10_at (cs:List Int)(a:Int)(A:Option Addr)(cp:Nat)(w:World)(K:Nat→Prop)(hsl:SlAt w K 1 (.slice A cs.length cp) cs.length (cs.map (Value.int .u32)))(hn:cs.length≤65536):
  Z 39 #[.slice A cs.length cp,I a] w fun e w'=>e= .returned (.tuple #[J (atL cs a).1,.bool (atL cs a).2])∧w'=w:=by
 by_cases h0:a<0
 ·have hr:atL cs a=(0,false):=by unfold atL;rw[if_neg (by omega)]
  rw[hr];have g0:decide (a<0)=true:=decide_eq_true h0;exact c433
 have g0:decide (a<0)=false:=decide_eq_false h0
 by_cases h1:(cs.length:Int)≤a
 ·have hr:atL cs a=(0,false):=by unfold atL;rw[if_neg (by omega)]
  rw[hr];have g1:decide ((cs.length:Int)≤a)=true:=decide_eq_true h1;exact c433
 have g1:decide ((cs.length:Int)≤a)=false:=decide_eq_false h1;obtain⟨i,rfl⟩:=Int.eq_ofNat_of_zero_le (by omega:0≤a)
 have hlt:i<cs.length:=by omega
 have hltI:(i:Int)<(cs.length:Int):=by omega
 obtain⟨x,hx⟩:∃x,cs[i]? =some x:=⟨_,List.getElem?_eq_getElem hlt⟩;obtain⟨b,off,c9,hv,hb,hc⟩:=hsl.get i x hx;injection hv with e1 e2 e3
 subst e1 e3;have hr:atL cs i=(x,true):=by
  unfold atL;rw[if_pos ⟨by omega,hltI⟩,Int.toNat_natCast,List.getD_eq_getElem?_getD,hx];rfl
 rw[hr];clear hx hr hsl hb;exact c433
set_option maxRecDepth 100000 in
set_option maxHeartbeats 1000000 in
theorem ref01_copy (cs:List Int)(A:Option Addr)(cp:Nat)(w:World)(K:Nat→Prop)(hb:∀b,K b→b<w.heap.size)(hsl:SlAt w K 1 (.slice A cs.length cp) cs.length (cs.map (Value.int .u32)))(hn0:0<cs.length)(hn:cs.length≤65536):
  Z 86 #[.slice A cs.length cp] w fun e w'=>
   e= .returned (.slice (some ⟨w.heap.size,0,none⟩) cs.length cs.length)∧Blk w' w.heap.size (cs.map (Value.int .u32))∧Keeps (· <w.heap.size) w w':=by
 obtain⟨A',cap,h1,h2,h3,h4,h5⟩:=hsl;obtain⟨b,off,rfl,hkb,hc⟩:=h5 hn0;injection h1 with h1 _ h2'
 subst h1 h2';have hbl:=hb b hkb;have hmk:=fun w=>run_make_row' (P:=Tryz.prog) 47 32 (J 0) 4 Tryz.underlying47 Tryz.infoU rfl .i64 .i64 cs.length (by omega) (by omega) w
 have hcw:∀(j:Nat) (u:Value),(cs.map (Value.int .u32))[j]? =some u→(w.alloc (.cells (madeCells #[J 0] cs.length) 32)).cell? ⟨b,off+j,none⟩=some u:=fun j u hu=>
  (World.cell?_of_block (a:=⟨b,off+j,none⟩) (((Keeps.refl (· <w.heap.size) w).alloc (fun b hb=>hb) _).block b hbl)).trans (hc j u hu)
 have hhg:(w.alloc (.cells (madeCells #[J 0] cs.length) 32)).heap[w.heap.size]? =some (.cells (List.replicate cs.length (J 0)).toArray 32 (0,0)):=by
  have e:madeCells #[J 0] cs.length=(List.replicate cs.length (J 0)).toArray:=by
   apply Array.ext';rw[toList_madeCells_one]
  rw[e];exact heap_alloc_new w _
 have HG:=hid hhg;have HC:=hid hcw;have HN:=hid (show(cs.map (Value.int .u32)).length=cs.length from List.length_map ..)
 have HCw:=hid hc;clear hcw hhg h5 hc h4 h2 h3 hkb hb;refine calls_hide fun R' hR'=>?_
 go_enter Tryz.func86,Tryz.ntmps86
 go_wp2_with (with_reducible refine wpList_copy_splice rfl (.tmp 7) (.tmp 8) 47 47 rfl 32 Tryz.underlying47 Tryz.sizeU _ _ _ _ _ _ rfl rfl w.heap.size 0 (List.replicate cs.length (J 0)) 32 HG.out (cs.map (Value.int .u32)) ?hn ?hpos ?hfit ?h1 w.heap.size w ?hb (Nat.le_refl _) ?_)
 case hpos=>intro j x hj;exact HCw.out j _ (by rw[List.getElem?_map,hj];rfl)
 case h1=>intro u hu;rfl
 case hb=>exact(Below.refl _ _).alloc (Nat.le_refl _) _
 exact c130
def pv (l:List Int)(m i:Nat):Nat→Int
 |0=>0
 |j+1=>pv l m i j*256+(if i+(3-j)<m then l.getD (i+(3-j)) 0 else 0)
theorem pv_bound {l:List Int}(h:∀x∈l,0≤x∧x≤255)(m i:Nat):∀j,j≤4→0≤pv l m i j∧pv l m i j<256^j
 |0,_=>by simp[pv]
 |j+1,hj=>by
  obtain⟨h0,h1⟩:=pv_bound h m i j (by omega)
  have hb:0≤(if i+(3-j)<m then l.getD (i+(3-j)) 0 else 0)∧(if i+(3-j)<m then l.getD (i+(3-j)) 0 else 0)≤255:=by
   split
   ·rw[List.getD_eq_getElem?_getD]
    cases hg:l[i+(3-j)]? with
    |none=>simp
    |some x=>exact h x (List.mem_of_getElem? hg)
   ·simp
  unfold pv;rw[Int.pow_succ]
  omega
theorem pv_all (l:List Int)(m q:Nat):pv l m (4*q) 4=pc l m q:=by
 simp only[pv,pc]
 simp
 omega
set_option maxRecDepth 100000 in
set_option maxHeartbeats 2000000 in
theorem ref7_cells (t:ByteArray)(ht:t.size≤1099511627776)(w:World):Z 62 #[.string t] w fun e w'=>∃v,e= .returned v∧NewRow w w' 32 (Value.int .u32) v (packC (bsL t)):=by
 refine calls_hide fun R' hR'=>?_
 go_enter Tryz.func62,Tryz.ntmps62
 go_wp2_with fail
 go_loopw[3,4] (fun ov iv wr=>∃(q:Nat) (A:Option Addr) (cp:Nat),ov= .slice A (pcs (bsL t) q t.size).length cp∧iv=I (4*(q:Int))∧q≤(t.size+3)/4∧Hid (NewRow w wr 32 (Value.int .u32) (.slice A (pcs (bsL t) q t.size).length cp) (pcs (bsL t) q t.size))) (fun _ iv _=>t.size+4-(intOf iv).toNat)
 case atStart=>exact⟨0,_,0,rfl,rfl,Nat.zero_le _,hid (NewRow.empty _ _ _ _ rfl)⟩
 case round=>
  obtain⟨q,A,cp,rfl,rfl,hq,HR⟩:=hrel
  by_cases hlt:4*q<t.size
  ·have hltI:4*(q:Int)<(t.size:Int):=by omega
   go_wp2_with fail
   go_loopw[5,6] (fun nv kv wk=>∃(z:Int),nv=J (pv (bsL t) t.size (4*q) (3-z).toNat)∧kv=I z∧-1≤z∧z≤3∧wr=wk) (fun _ kv _=>(intOf kv+1).toNat)
   case atStart=>exact⟨3,rfl,rfl,by omega,by omega,rfl⟩
   case round=>
    rename World=>wk
    obtain⟨z,rfl,rfl,hz0,hz1,rfl⟩:=hrel
    by_cases hz:0≤z
    ·obtain⟨k,rfl⟩:=Int.eq_ofNat_of_zero_le hz;obtain⟨j,hj⟩:∃j,j=(3-(k:Int)).toNat:=⟨_,rfl⟩;have hj3:j≤3:=by omega
     have hkj:k=3-j:=by omega
     have hb:=pv_bound (fun x hx=>bsL_range t x hx) t.size (4*q) j (by omega)
     have hb2:pv (bsL t) t.size (4*q) j<16777216:=by
      rcases(by omega:j=0∨j=1∨j=2∨j=3)with rfl|rfl|rfl|rfl<;>(simp at hb;omega)
     have hb1:=hb.1;have hnx:pv (bsL t) t.size (4*q) (j+1)=pv (bsL t) t.size (4*q) j*256+(if 4*q+(3-j)<t.size then(bsL t).getD (4*q+(3-j)) 0 else 0):=rfl
     rw[←hkj]at hnx;rw[←hj];generalize pv (bsL t) t.size (4*q) j=pj at*
     by_cases hin:4*q+k<t.size
     ·have hinI:4*(q:Int)+(k:Int)<(t.size:Int):=by omega
      rw[if_pos hin,bsL_get t _ hin]at hnx;have hby:t[4*q+k].toNat≤255:=by have:=t[4*q+k].toNat_lt;omega
      have hq0:(0:Int)≤4*(q:Int)+(k:Int):=by omega
      have Hnx:=hid hnx;have Hj:=hid hj;have Hkj:=hid hkj;clear hnx hj hkj;clear hb
      go_wp2_with fail
      go_roundw
      case rel=>exact⟨(k:Int)-1,by rw[show(3-((k:Int)-1)).toNat=j+1 by have:=Hj.out;omega,Hnx.out],rfl,by omega,by omega,by first|trivial|rfl⟩
      case measure=>exact msA
     ·have hinI:¬4*(q:Int)+(k:Int)<(t.size:Int):=by omega
      rw[if_neg hin]at hnx;have Hnx:=hid hnx;have Hj:=hid hj;have Hkj:=hid hkj;clear hnx hj hkj;clear hb hin
      go_wp2_with fail
      go_roundw
      case rel=>exact⟨(k:Int)-1,by rw[show(3-((k:Int)-1)).toNat=j+1 by have:=Hj.out;omega,Hnx.out];simp,rfl,by omega,by omega,by first|trivial|rfl⟩
      case measure=>exact msA
    ·obtain rfl:z= -1:=by omega
     have hBs:=HR.out.2.size;have hlb:(pcs (bsL t) q t.size).length≤1099511627776:=by rw[pcs_len];omega
     rw[show(3-(-1:Int)).toNat=4 from rfl,pv_all]
     obtain⟨i0,hi,hz0,hz1,hz2⟩:=info_partsF Tryz.infoU
     go_wp2_with (at_builtin;refine wpList_append_own _ rfl _ _ 47 rfl (w.heap.size) 32 i0 (J 0) 1 4 Tryz.underlying47 hi hz0 hz1 hz2 rfl (by decide) (.slice A (pcs (bsL t) q t.size).length cp) (pcs (bsL t) q t.size).length ((pcs (bsL t) q t.size).map (Value.int .u32)) rfl (HR.out.1.alloc _) ⟨wr.heap.size,0,none⟩ 1 1 [J (pc (bsL t) t.size q)] rfl rfl ?_ ?_ ?_ ?_ ?_ ?_)
     all_goals(try(first|(intro j u hj;rcases j with _|j;(· simpa[Addr.add]using hj);(· simp at hj))|(intro u hu;simp at hu;rcases hu with rfl;rfl)|(with_reducible rfl)|rfl|(unfold maxLen;omega)|omega|(simp;omega)|(simp;done)))
     intro v' w6 hown hgr _;have hN:=HR.out.push hown hgr;have hp:pcs (bsL t) q t.size++[pc (bsL t) t.size q]=pcs (bsL t) (q+1) t.size:=by unfold pcs;rw[List.range_succ,List.map_append];rfl
     have hl1:(pcs (bsL t) q t.size).length+1=(pcs (bsL t) (q+1) t.size).length:=by rw[pcs_len,pcs_len]
     rw[hl1]at hown;obtain⟨A',cp',rfl⟩:=ownB_form hown;rw[hp]at hN;clear hown hgr hi hz0 hz1 hz2 HR hp hl1;have HN:=hid hN;clear hN
     go_wp2_with fail
     go_roundw
     case rel=>exact⟨q+1,A',cp',rfl,by go_num,by omega,HN⟩
     case measure=>exact msA
  ·obtain rfl:q=(t.size+3)/4:=by omega
   have hltI:¬4*(((t.size+3)/4:Nat):Int)<(t.size:Int):=by omega
   go_wp2_with fail
   refine hR'.out _ _ ⟨_,rfl,?_⟩;have e:packC (bsL t)=pcs (bsL t) ((t.size+3)/4) t.size:=by unfold packC;rw[bsL_len]
   rw[e];exact HR.out
theorem bits_xor64 (x y:Int)(hx:0≤x∧x≤4294967295)(hy:0≤y∧y≤255):
  bits .xor .u64 x y=((Nat.xor x.toNat y.toNat:Nat):Int)∧Nat.xor x.toNat y.toNat<4294967296:=by
 obtain⟨x,rfl⟩:=Int.eq_ofNat_of_zero_le hx.1;obtain⟨y,rfl⟩:=Int.eq_ofNat_of_zero_le hy.1;have hle:Nat.xor x y<2^32:=Nat.xor_lt_two_pow (by omega) (by omega)
 have e:(BitVec.ofInt 64 (x:Int)^^^BitVec.ofInt 64 (y:Int)).toNat=Nat.xor x y:=by
  rw[BitVec.toNat_xor,BitVec.toNat_ofInt,BitVec.toNat_ofInt];have e1:((x:Int)%((2^64:Nat):Int)).toNat=x:=by omega
  have e2:((y:Int)%((2^64:Nat):Int)).toNat=y:=by omega
  rw[e1,e2];rfl
 refine⟨?_,hle⟩;show IntKind.u64.wrap ((BitVec.ofInt 64 (x:Int)^^^BitVec.ofInt 64 (y:Int)).toNat:Int)=_;rw[e];show((Nat.xor x y:Nat):Int)%18446744073709551616=_;simp only[Int.toNat_natCast]
 omega
set_option maxHeartbeats 1000000 in
theorem hash7 (t:ByteArray)(ht:t.size≤140737488351232)(w:World):
  Z 89 #[.string t] w fun e w'=>e= .returned (J (hashL (bsL t)))∧w=w':=by
 refine calls_hide fun R' hR'=>?_
 go_enter Tryz.func89,Tryz.ntmps89
 go_wp2_with fail
 go_loop [3,4] (fun h i=>∃k:Nat,i=I k∧k≤t.size∧h= .int .u64 (hashL ((bsL t).take k))) (fun _ i=>t.size-(intOf i).toNat)
 case atStart=>exact⟨0,rfl,Nat.zero_le _,rfl⟩
 case round=>
  obtain⟨k,rfl,hk,rfl⟩:=hrel;have hr:=hash_range ((bsL t).take k)
  by_cases hlt:k<t.size
  ·have hby:0≤(t[k].toNat:Int)∧(t[k].toNat:Int)≤255:=by have:=t[k].toNat_lt;omega
   have hx:=(bits_xor64 (hashL ((bsL t).take k)) (t[k].toNat:Int) hr hby);obtain⟨hx,hxl⟩:=hx;have hst:hashL ((bsL t).take (k+1))=hashStep (hashL ((bsL t).take k)) (t[k].toNat:Int):=by
    rw[hash_take _ _ (by rw[bsL_len];exact hlt),bsL_get t k hlt]
   unfold hashStep at hst;generalize hashL ((bsL t).take k)=h at*;obtain⟨h0,h1⟩:=hr;obtain⟨g0,g1⟩:=hby;have i3:(k:Int)<(t.size:Int):=by omega
   generalize Nat.xor h.toNat (Int.toNat ↑t[k].toNat)=xo at*;have hxo:(xo:Int)≤4294967295:=by omega
   have Hst:=hid hst;clear hst
   go_wp2_with fail
   go_round
   case rel=>exact⟨k+1,by go_num,by omega,by rw[Hst.out]⟩
   case measure=>simp[intOf];omega
  ·have hkn:k=t.size:=by omega
   subst hkn;rw[List.take_of_length_le (by rw[bsL_len];omega)]at hr
   rw[List.take_of_length_le (by rw[bsL_len];omega)]
   generalize hashL (bsL t)=h at*;obtain⟨h0,h1⟩:=hr;exact c84
section
variable {P:Program}{ops:Array Oper}{md:Region.Mode}{C:World→Prop}
def wpAnyLQ (P:Program)(md:Region.Mode)(ops:Array Oper)(C:World→Prop)(n:Nat)(L:Array Bool→Act→Prop):Nat→Array Bool→Act→Prop
 |0,listed,a=>L listed a
 |f+1,listed,a=>Region.ready md ops listed≠[]∧∀i∈Region.ready md ops listed,i<n∧qOp P ops C i (wpAnyLQ P md ops C n L f (listed.setIfInBounds i true)) a
theorem wpAny_of_headQ {n g:Nat}{L:Array Bool→Act→Prop}{Q':Exit→Act→World→Prop}(hL:∀listed a w,C w→L listed a→wpAny P md ops Q' g listed a w):
  ∀(f:Nat) (listed:Array Bool) (a:Act) (w:World),C w→wpAnyLQ P md ops C n L f listed a→wpAny P md ops Q' (f+g) listed a w
 |0,listed,a,w,hw,h=>by rw[Nat.zero_add];exact hL _ _ _ hw h
 |f+1,listed,a,w,hw,h=>by
  rw[show f+1+g=(f+g)+1 by omega]
  exact⟨fun h0=>absurd h0 h.1,fun i hi=>wpOp_of_qOp hw (fun a' w' hw' h'=>wpAny_of_headQ hL f _ a' w' hw' h') (h.2 i hi).2⟩
theorem wpAnyLQ_first {n i:Nat}{oi:Oper}{v:Value}{L:Array Bool→Act→Prop}(hi:ops[i]? =some oi)(hsel:∀(j:Nat) (o:Oper) cs b,ops[j]? =some o→o.op≠ .select cs b)
  (hs:Region.sinkB md ops n=true) (hc:Region.chainB md ops n=true) (hn:n<ops.size) (hin:i<n)
  (hdone:∀listed a,L listed a→∀j∈Region.ready md ops listed,n≤j):
  ∀(f:Nat) (listed:Array Bool) (a:Act),HeadInv md ops n listed→
   (∀j oj,ops[j]? =some oj→j≠i→listed.getD j true=false→(∀e∈oj.after,Region.binds md e=true→e.on≠i)→oi.apart ops oj=true)→
   i∈Region.ready md ops listed→YieldsIn P ops C oi v a→
   wpAnyLQ P md ops C n L f (listed.setIfInBounds i true) (a.put oi.dst v)→wpAnyLQ P md ops C n L (f+1) listed a:=by
 intro f
 induction f with
 |zero=>
  intro listed a inv _ hr hy H;have hun:=(mem_ready.1 hr).1;refine⟨fun h=>(by rw[h]at hr;cases hr),fun j hj=>?_⟩
  have hjn:j<n:=by
   rcases Nat.lt_or_ge j n with h|h
   ·exact h
   ·exact absurd hj (tail_waits hs hc hn inv _ i rfl hin hun j h)
  refine⟨hjn,?_⟩
  by_cases hji:j=i
  ·subst hji;exact hy.qOp hi H
  ·have:=hdone _ _ H j (ready_mono hj hji)
   omega
 |succ f ih=>
  intro listed a inv hfree hr hy H;have hun:=(mem_ready.1 hr).1;refine⟨fun h=>(by rw[h]at hr;cases hr),fun j hj=>?_⟩
  have hjn:j<n:=by
   rcases Nat.lt_or_ge j n with h|h
   ·exact h
   ·exact absurd hj (tail_waits hs hc hn inv _ i rfl hin hun j h)
  refine⟨hjn,?_⟩
  by_cases hji:j=i
  ·subst hji;exact hy.qOp hi H
  ·have h1:=(H.2 j (ready_mono hj hji)).2;obtain⟨hjun,oj,hoj,hall⟩:=mem_ready.1 hj;have hnot:∀e∈oj.after,Region.binds md e=true→e.on≠i:=fun e he hb heq=>by
    have h1:=hall e he hb;rw[heq,getD_both hun]at h1
    cases h1
   have h2:=qOp_put hoj (hfree j oj hoj hji hjun hnot) (fun cs b=>hsel i oi cs b hi) (fun cs b=>hsel j oj cs b hoj) hy h1;have hfree':∀k ok,ops[k]? =some ok→k≠i→(listed.setIfInBounds j true).getD k true=false→
     (∀e∈ok.after,Region.binds md e=true→e.on≠i)→oi.apart ops ok=true:=fun k ok hk hki hun hno=>by
    refine hfree k ok hk hki ?_ hno
    by_cases hjk:j=k
    ·subst hjk;exact hjun
    ·rw[getD_set_ne true hjk]at hun;exact hun
   refine qOp_mono (fun a' h3=>ih (listed.setIfInBounds j true) a' (inv.set hj hjn) hfree' (ready_mono hr (Ne.symm hji)) h3.1 ?_) h2;rw[Array.setIfInBounds_comm _ _ hji];exact h3.2
theorem wpAnyLQ_lex {n g:Nat}{Lq:Act→Prop}(hsel:Region.noSelect ops=true)(hs:Region.sinkB md ops n=true)(hc:Region.chainB md ops n=true)(hn:n<ops.size):
  ∀(l:List Oper) (k:Nat) (listed:Array Bool) (a:Act),(∀j,j<l.length→l[j]? =ops[k+j]?)→k+l.length=n→HeadInv md ops n listed→
  Region.lexHead md ops g l.length k listed=true→wpQuiet P ops C Lq l a→
  wpAnyLQ P md ops C n (fun listed' a'=>Region.seqB md ops g n listed'=true∧Lq a') l.length listed a
 | [],k,listed,a,_,hk,_,hB,h=>by
  have:k=n:=by simpa using hk
  subst this;exact⟨by simpa[Region.lexHead]using hB,h⟩
 |o::l,k,listed,a,hl,hk,inv,hB,h=>by
  have h0:ops[k]? =some o:=by simpa using(hl 0 (by simp)).symm
  simp only[List.length_cons,Region.lexHead,Bool.and_eq_true]at hB;obtain⟨⟨hr,hf⟩,hB'⟩:=hB;have hkn:k<n:=by simp only[List.length_cons]at hk;omega
  have hr':k∈Region.ready md ops listed:=by simpa using hr
  have hst:qOp P ops C k (wpQuiet P ops C Lq l) a:=by unfold qOp;simp only[h0];exact h
  obtain⟨v,hy,hK⟩:=yieldsIn_of_qOp h0 hst;exact wpAnyLQ_first h0 (Region.noSelect_spec hsel) hs hc hn hkn (fun listed' a' hL=>seqB_ready hL.1) l.length listed a inv (Region.free_spec h0 hf) hr' hy
   (wpAnyLQ_lex hsel hs hc hn l (k+1) _ _ (fun j hj=>by have:=hl (j+1) (by simp;omega);simpa[Nat.add_assoc,Nat.add_comm 1 j]using this) (by simp only[List.length_cons]at hk;omega) (inv.set hr' hkn) hB' hK)
theorem wp_region_quiet_tail {id:Nat}{Q:Exit→Act→World→Prop}{a:Act}{w:World}{l:List Oper}(n:Nat)(hm:P.follows .mixedOrders=true)(hB:Region.lexTailB .any l.toArray n=true)(hC:C { w with drawn:=w.drawn+1 })
  (h:wpQuiet P l.toArray C (fun a'=>∀w',C w'→wpList P l.toArray Q (l.drop n) a' w') (l.take n) a):(Code.region id l.toArray true).wp P Q a w:=by
 simp only[Region.lexTailB,Bool.and_eq_true,decide_eq_true_eq]at hB;obtain⟨⟨⟨⟨hsel,hn⟩,hs⟩,hc⟩,hlex⟩:=hB;have hn':n<l.length:=by simpa using hn
 have htl:(l.take n).length=n:=by simp;omega
 have hdl:(l.drop n).length=l.toArray.size-n:=by simp
 have inv0:HeadInv .any l.toArray n (Array.replicate l.toArray.size false):=
  ⟨by simp,fun j oj _ hl=>(by rw[getD_replicate_false]at hl;cases hl),fun t _ ht=>getD_in (by simpa using ht) (getD_replicate_false _ _)⟩
 have H:=wpAnyLQ_lex (md:= .any) (C:=C) (g:=l.toArray.size-n) hsel hs hc hn (l.take n) 0 _ a (fun j hj=>by
  have hj':j<n:=by rw[htl]at hj;exact hj
  simp[hj']) (by simpa using htl) inv0 (by rw[htl];exact hlex) h
 refine wp_region_any hm ?_;have:=wpAny_of_headQ (C:=C) (Q':=Q) (g:=l.toArray.size-n) (fun listed a' w' hw' hL=>by
  have:=wpAny_of_seq (md:= .any) (Q':=Q) (l.drop n) n listed a' w' (fun j=>by simp[List.getElem?_drop]) (by rw[hdl];exact hL.1) (hL.2 w' hw')
  rwa [hdl]at this) _ _ _ _ hC H
 rw[htl,show n+(l.toArray.size-n)=l.toArray.size by omega]at this
 exact this
end
structure KC (K:Nat→Prop)(W:World) where
 w:World
 k:Keeps K W w
instance KC.ne (K:Nat→Prop)(W:World):Nonempty (KC K W):=⟨⟨W,Keeps.refl _ _⟩⟩
theorem wp_region_kc_tail {P:Program}{id:Nat}{Q:Exit→Act→World→Prop}{a:Act}{w:World}{l:List Oper}(K:Nat→Prop)(n:Nat)(hm:P.follows .mixedOrders=true)(hB:Region.lexTailB .any l.toArray n=true)
  (h:wpQuiet P l.toArray (fun w'=>∃p:KC K w,w'=p.w) (fun a'=>∀w',(∃p:KC K w,w'=p.w)→wpList P l.toArray Q (l.drop n) a' w') (l.take n) a):(Code.region id l.toArray true).wp P Q a w:=
 wp_region_quiet_tail (C:=fun w'=>∃p:KC K w,w'=p.w) n hm hB ⟨⟨w.drew,(Keeps.refl _ _).drew⟩,rfl⟩ h
theorem wp_region_kc {P:Program}{id:Nat}{Q:Exit→Act→World→Prop}{a:Act}{w:World}{l:List Oper}(K:Nat→Prop)(hm:P.follows .mixedOrders=true)(hB:Region.lexB .any l.toArray=true)
  (h:wpQuiet P l.toArray (fun w'=>∃p:KC K w,w'=p.w) (fun a'=>∀w',(∃p:KC K w,w'=p.w)→Q .normal a' w') l a):(Code.region id l.toArray true).wp P Q a w:=
 wp_region_quiet (C:=fun w'=>∃p:KC K w,w'=p.w) hm hB ⟨⟨w.drew,(Keeps.refl _ _).drew⟩,rfl⟩ (by simpa using h)
theorem KC.calls {P:Program}{f:FuncId}{args:Array Value}{W:World}{K:Nat→Prop}(p:KC K W){v:Value}(h:Calls P f args p.w fun e w'=>e= .returned v∧Keeps K p.w w'):Calls P f args p.w fun e w'=>e= .returned v∧∃q:KC K W,w'=q.w:=
 h.mono fun _ w' ⟨he,hk⟩=>⟨he,⟨w',p.k.trans hk⟩,rfl⟩
theorem KC.cell {W:World}{K:Nat→Prop}{b o:Nat}{v:Value}(p:KC K W)(hb:K b)(h:W.cell? ⟨b,o,none⟩=some v):p.w.cell? ⟨b,o,none⟩=some v:=(World.cell?_of_block (p.k.block b hb)).trans h
theorem next_bad {p:PlanM}{t:Int}(h:(p.next t).2=false):p.next t=(0,false):=by
 unfold PlanM.next at*
 split
 ·rename_i hh;rw[if_pos hh]at h;cases h
 ·rename_i hh
  rw[if_neg hh]at h
  split
  ·rfl
  ·rename_i h2
   rw[if_neg h2]at h
   split
   ·rename_i h3;rw[if_pos h3]at h;cases h
   ·rename_i h3;rw[if_neg h3]at h;cases h
set_option maxRecDepth 100000 in
set_option maxHeartbeats 4000000 in
theorem put_bad {w:World}{K:Nat→Prop}{r m c:Nat}{s:St}(h:RM w K r m c s)(hK0:K 0)(ht:PTab w)(p:PlanM)(hp:p.Wf)(u:V6)(t v:Int)(ht0:0≤t∧t≤4294967295)(hv:U32 v)(hn:p.next t=(0,false)):
  Z 83 #[.pointer (some ⟨r,0,none⟩),p.val,u.val,I t,J v] w fun e w'=>
   e= .returned (.tuple #[I 0,zeros6v.val,I 1])∧RM w' K r m c s∧Keeps K w w':=by
 have zz11:=PLift.up @c178;exact c176
def UIn (p:PlanM)(u:V6):Prop:=(0≤u.a0∧u.a0≤p.size.a0)∧(0≤u.a1∧u.a1≤p.size.a1)∧(0≤u.a2∧u.a2≤p.size.a2)∧(0≤u.a3∧u.a3≤p.size.a3)∧(0≤u.a4∧u.a4≤p.size.a4)∧(0≤u.a5∧u.a5≤p.size.a5)
theorem UIn.uK {p:PlanM}{u:V6}(h:UIn p u){k:Nat}(hk:k≤3):0≤u.uK k∧u.uK k≤p.sK k:=by
 obtain⟨h0,h1,h2,h3,_,_⟩:=h;have:k=0∨k=1∨k=2∨k=3:=by omega
 rcases this with rfl|rfl|rfl|rfl<;>assumption
theorem UIn.zero {p:PlanM}{u:V6}(h:UIn p u):UIn p zero6:=by
 unfold UIn zero6 at*;dsimp only
 omega
theorem UIn.up {p:PlanM}{u:V6}(h:UIn p u){k:Nat}(hk:k≤3){z:Int}(hz:0≤z)(hf:u.uK k+z≤p.sK k):UIn p (u.up k z):=by
 have:k=0∨k=1∨k=2∨k=3:=by omega
 obtain⟨h0,h1,h2,h3,h4,h5⟩:=h
 rcases this with rfl|rfl|rfl|rfl<;>(simp only[V6.uK,PlanM.sK]at hf;simp only[V6.up,UIn];omega)
theorem cls_lt {p:PlanM}(hp:p.Wf){t:Int}{k:Nat}(h:(p.cls t).1=(k:Int)):0≤t∧t<131072:=by
 have hk:∀k,p.has k t→0≤t∧t<131072:=fun k h=>by
  obtain⟨h1,h2⟩:=h;have:=hp.b k;have:=hp.s k
  omega
 unfold PlanM.cls at h
 split at h
 ·exact hk 0 (by assumption)
 ·split at h
  ·exact hk 1 (by assumption)
  ·split at h
   ·exact hk 2 (by assumption)
   ·split at h
    ·exact hk 3 (by assumption)
    ·simp only at h;omega
theorem postPutT_ok {p:PlanM}{u:V6}{t v:Int}{s:St}(hp:p.Wf)(hu:UIn p u)(ht0:0≤t∧t≤4294967295):UIn p ((postPutT p u t v).exec s).1.2∧U32 ((postPutT p u t v).exec s).1.1:=by
 unfold postPutT
 split
 ·exact⟨hu.zero,⟨by show(0:Int)≤0;decide,by show(0:Int)≤4294967295;decide⟩⟩
 ·rename_i hh
  have hh:(p.next t).2=true:=by simpa using hh
  split
  ·rename_i h1
   obtain⟨k,hk,hkn⟩:∃k:Nat,k≤3∧(p.cls t).1=(k:Int):=by
    rcases next_range p t hh with⟨_,k,h2,h3,_⟩|⟨k,_,h2⟩
    ·exact⟨k,h2,h3⟩
    ·omega
   have:=cls_lt hp hkn;rw[Tree.exec_bind];refine⟨hu,?_⟩;show U32 (t+1);unfold U32;omega
  ·rename_i h1
   obtain⟨k,hk,hkn⟩:∃k:Nat,k≤3∧(p.next t).1=(k:Int):=by
    rcases next_range p t hh with⟨h2,_⟩|h2
    ·omega
    ·exact h2
   obtain⟨hu0,hu1⟩:=hu.uK hk;rw[hkn];simp only[Int.toNat_natCast];have hz:=szK_bd k
   split
   ·exact⟨hu.zero,⟨by show(0:Int)≤0;decide,by show(0:Int)≤4294967295;decide⟩⟩
   ·rename_i hf
    rw[Tree.exec_bind];refine⟨hu.up hk (by omega) (by omega),?_⟩
    show U32 (p.bK k+u.uK k+1);have h2:=hp.b k;have h3:=hp.s k;unfold U32;omega
theorem post_put {w:World}{K:Nat→Prop}{r m c:Nat}{s:St}(h:RM w K r m c s)(hK0:K 0)(ht:PTab w)(p:PlanM)(hp:p.Wf)(u:V6)(t v:Int)(ht0:0≤t∧t≤4294967295)(hv:U32 v)(hu:UIn p u):
  Z 83 #[.pointer (some ⟨r,0,none⟩),p.val,u.val,I t,J v] w fun e w'=>
   (∃x:Int,e= .returned (.tuple #[I ((postPutT p u t v).exec s).1.1,V6.val ((postPutT p u t v).exec s).1.2,I x]))∧RM w' K r m c ((postPutT p u t v).exec s).2∧Keeps K w w':=by
 unfold postPutT
 split
 ·rename_i hh
  refine(put_bad h hK0 ht p hp u t v ht0 hv (next_bad hh)).mono ?_;rintro e w' ⟨rfl,h1,h2⟩;exact⟨⟨_,rfl⟩,h1,h2⟩
 ·rename_i hh
  have hh:(p.next t).2=true:=by simpa using hh
  split
  ·rename_i h1
   have hn:p.next t=(-1,true):=by
    rcases next_range p t hh with⟨h2,_⟩|⟨k,_,h2⟩
    ·exact Prod.ext h2 hh
    ·omega
   refine(put_in h hK0 ht p hp u t v ht0 hv hn).mono ?_;exact c135
  ·rename_i h1
   obtain⟨k,hk,hkn⟩:∃k:Nat,k≤3∧(p.next t).1=(k:Int):=by
    rcases next_range p t hh with⟨h2,_⟩|h2
    ·omega
    ·exact h2
   have hn:p.next t=((k:Int),true):=Prod.ext hkn hh
   obtain⟨hu0,hu1⟩:=hu.uK hk;rw[hkn];simp only[Int.toNat_natCast]
   split
   ·rename_i hf
    refine(put_full h hK0 ht p hp u t v k hk ht0 hv hn hu0 hu1 hf).mono ?_;rintro e w' ⟨rfl,h1,h2⟩;exact⟨⟨_,rfl⟩,h1,h2⟩
   ·rename_i hf
    refine(put_new h hK0 ht p hp u t v k hk ht0 hv hn hu0 (by omega)).mono ?_
    exact c135
end Go.Proofs.YtogdknnkhkjmcaaGreatDoor
