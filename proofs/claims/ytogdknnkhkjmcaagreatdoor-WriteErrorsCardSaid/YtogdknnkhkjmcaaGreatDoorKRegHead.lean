/- Lemmas on the programs that the statement reaches. -/
import Derived.Test.YtogdknnkhkjmcaaGreatDoorKOpen
namespace Go.Proofs.YtogdknnkhkjmcaaGreatDoor
open Go.RowKit
set_option linter.all false
def BlkN (w:World)(b n:Nat):Prop:=∃l,Blk w b l∧l.length=n
theorem BlkN.of6 {w:World}{b:Nat}{v0 v1 v2 v3 v4 v5:Value}(h:Blk w b [v0,v1,v2,v3,v4,v5]):BlkN w b 6:=⟨_,h,rfl⟩
theorem BlkN.set_ne {w:World}{b n:Nat}(h:BlkN w b n){a:Addr}(v:Value)(hb:b≠a.block):BlkN (w.setCell a v) b n:=let ⟨l,h1,h2⟩:=h;⟨l,h1.set_ne v hb,h2⟩
theorem BlkN.set6 {w:World}{b:Nat}(h:BlkN w b 6)(v0 v1 v2 v3 v4 v5:Value):
  Blk ((((((w.setCell ⟨b,0,none⟩ v0).setCell ⟨b,1,none⟩ v1).setCell ⟨b,2,none⟩ v2).setCell ⟨b,3,none⟩ v3).setCell ⟨b,4,none⟩ v4).setCell ⟨b,5,none⟩ v5) b [v0,v1,v2,v3,v4,v5]:=by
 obtain⟨l,h1,h2⟩:=h;exact h1.set6 v0 v1 v2 v3 v4 v5 h2
def bsL (s:ByteArray):List Int:=s.data.toList.map fun b=>(b.toNat:Int)
theorem bsL_len (s:ByteArray):(bsL s).length=s.size:=by simp[bsL]
theorem bsL_range (s:ByteArray):∀x∈bsL s,0≤x∧x≤255:=by
 intro x hx;simp only[bsL,List.mem_map]at hx;obtain⟨b,_,rfl⟩:=hx;have:=b.toNat_lt
 omega
theorem bsL_get (s:ByteArray)(i:Nat)(h:i<s.size):(bsL s).getD i 0=(s[i].toNat:Int):=by
 have h1:i<(bsL s).length:=by rw[bsL_len];exact h
 rw[List.getD_eq_getElem?_getD,List.getElem?_eq_getElem h1]
 simp[bsL]
 rfl
theorem bsL_inj {s t:ByteArray}(h:bsL s=bsL t):s=t:=by
 have:s.data.toList=t.data.toList:=by
  unfold bsL at h;refine List.map_inj_right ?_|>.1 h
  intro x y e;have e:(x.toNat:Int)=y.toNat:=e;exact UInt8.toNat_inj.1 (by omega)
 have h2:s.data=t.data:=Array.toList_inj.1 this
 cases s;cases t;simp_all
def pc (l:List Int)(i j:Nat):Int:=
 (if 4*j<i then l.getD (4*j) 0 else 0)+256*(if 4*j+1<i then l.getD (4*j+1) 0 else 0)+
  65536*(if 4*j+2<i then l.getD (4*j+2) 0 else 0)+16777216*(if 4*j+3<i then l.getD (4*j+3) 0 else 0)
def pcs (l:List Int)(n i:Nat):List Int:=(List.range n).map (pc l i)
def packC (l:List Int):List Int:=pcs l ((l.length+3)/4) l.length
theorem pcs_len (l:List Int)(n i:Nat):(pcs l n i).length=n:=by simp[pcs]
theorem packC_len (l:List Int):(packC l).length=(l.length+3)/4:=pcs_len _ _ _
theorem pcs_get (l:List Int)(n i j:Nat)(h:j<n):(pcs l n i)[j]? =some (pc l i j):=by
 simp[pcs,h]
theorem pcs_zero (l:List Int)(n:Nat):pcs l n 0=List.replicate n 0:=by
 apply List.ext_getElem?
 intro j
 by_cases h:j<n
 ·rw[pcs_get l n 0 j h,List.getElem?_replicate,if_pos h];simp[pc]
 ·rw[List.getElem?_eq_none (by rw[pcs_len];omega),List.getElem?_replicate,if_neg h]
def Byte (x:Int):Prop:=0≤x∧x≤255
theorem getD_byte {l:List Int}(h:∀x∈l,Byte x)(k:Nat):Byte (l.getD k 0):=by
 rw[List.getD_eq_getElem?_getD]
 cases e:l[k]? with
 |none=>exact⟨by simp,by simp⟩
 |some x=>exact h x (List.mem_of_getElem? e)
theorem pc_range {l:List Int}(h:∀x∈l,Byte x)(i j:Nat):0≤pc l i j∧pc l i j≤4294967295:=by
 have h0:=getD_byte h (4*j);have h1:=getD_byte h (4*j+1);have h2:=getD_byte h (4*j+2);have h3:=getD_byte h (4*j+3);unfold Byte at h0 h1 h2 h3;unfold pc
 split<;>split<;>split<;>split<;>omega
theorem packC_range {l:List Int}(h:∀x∈l,Byte x):∀x∈packC l,0≤x∧x≤4294967295:=by
 intro x hx;simp only[packC,pcs,List.mem_map]at hx;obtain⟨j,_,rfl⟩:=hx;exact pc_range h _ _
def pw (r:Nat):Int:=if r=0 then 1 else if r=1 then 256 else if r=2 then 65536 else 16777216
theorem pc_low {l:List Int}(h:∀x∈l,Byte x)(i:Nat):0≤pc l i (i/4)∧pc l i (i/4)<pw (i%4):=by
 have h0:=getD_byte h (4*(i/4));have h1:=getD_byte h (4*(i/4)+1);have h2:=getD_byte h (4*(i/4)+2);unfold Byte at h0 h1 h2;generalize hq:i/4=q at*;generalize hr:i%4=r at*;have hi:i=4*q+r:=by omega
 have hr4:r<4:=by omega
 subst hi;unfold pc pw
 rcases(by omega:r=0∨r=1∨r=2∨r=3)with rfl|rfl|rfl|rfl
 ·rw[if_neg (by omega),if_neg (by omega),if_neg (by omega),if_neg (by omega)];simp
 ·rw[if_pos (by omega),if_neg (by omega),if_neg (by omega),if_neg (by omega)];exact⟨by omega,by rw[if_neg (by decide),if_pos rfl];omega⟩
 ·rw[if_pos (by omega),if_pos (by omega),if_neg (by omega),if_neg (by omega)];exact⟨by omega,by rw[if_neg (by decide),if_neg (by decide),if_pos rfl];omega⟩
 ·rw[if_pos (by omega),if_pos (by omega),if_pos (by omega),if_neg (by omega)];exact⟨by omega,by rw[if_neg (by decide),if_neg (by decide),if_neg (by decide)];omega⟩
theorem pc_next (l:List Int)(i j:Nat):pc l (i+1) j=if j=i/4 then pc l i j+l.getD i 0*pw (i%4)else pc l i j:=by
 generalize hq:i/4=q at*;generalize hr:i%4=r at*;have hi:i=4*q+r:=by omega
 have hr4:r<4:=by omega
 subst hi;unfold pc pw
 by_cases hj:j=q
 ·subst hj;rw[if_pos rfl]
  rcases(by omega:r=0∨r=1∨r=2∨r=3)with rfl|rfl|rfl|rfl
  ·rw[if_pos (by omega),if_neg (by omega),if_neg (by omega),if_neg (by omega),if_neg (by omega),if_neg (by omega),if_neg (by omega),if_neg (by omega)];simp
  ·rw[if_pos (by omega),if_pos (by omega),if_neg (by omega),if_neg (by omega),if_pos (by omega),if_neg (by omega),if_neg (by omega),if_neg (by omega)];simp;omega
  ·rw[if_pos (by omega),if_pos (by omega),if_pos (by omega),if_neg (by omega),if_pos (by omega),if_pos (by omega),if_neg (by omega),if_neg (by omega)];simp;omega
  ·rw[if_pos (by omega),if_pos (by omega),if_pos (by omega),if_pos (by omega),if_pos (by omega),if_pos (by omega),if_pos (by omega),if_neg (by omega)];simp;omega
 ·rw[if_neg hj]
  rcases Nat.lt_or_gt_of_ne hj with h|h
  ·rw[if_pos (by omega),if_pos (by omega),if_pos (by omega),if_pos (by omega),if_pos (by omega),if_pos (by omega),if_pos (by omega),if_pos (by omega)]
  ·rw[if_neg (by omega),if_neg (by omega),if_neg (by omega),if_neg (by omega),if_neg (by omega),if_neg (by omega),if_neg (by omega),if_neg (by omega)]
theorem pcs_next (l:List Int)(n i:Nat):(pcs l n i).set (i/4) (pc l i (i/4)+l.getD i 0*pw (i%4))=pcs l n (i+1):=by
 apply List.ext_getElem?
 intro j
 by_cases h:j<n
 ·rw[pcs_get l n (i+1) j h,pc_next]
  by_cases hj:j=i/4
  ·subst hj;rw[if_pos rfl,List.getElem?_set_self (by rw[pcs_len];exact h)]
  ·rw[if_neg hj,List.getElem?_set_ne (fun e=>hj e.symm),pcs_get l n i j h]
 ·rw[List.getElem?_eq_none (by rw[List.length_set,pcs_len];omega),List.getElem?_eq_none (by rw[pcs_len];omega)]
theorem packC_inj {l l':List Int}(h:∀x∈l,Byte x)(h':∀x∈l',Byte x)(hl:l.length=l'.length)(e:packC l=packC l'):l=l':=by
 apply List.ext_getElem hl
 intro k h1 h2;have ej:=congrArg (fun L=>L[k/4]?) e;simp only[packC]at ej;rw[pcs_get _ _ _ _ (by omega),pcs_get _ _ _ _ (by omega),←hl]at ej
 injection ej with ej
 have ta:l[k]=l.getD k 0:=by rw[List.getD_eq_getElem?_getD,List.getElem?_eq_getElem h1];rfl
 have tb:l'[k]=l'.getD k 0:=by rw[List.getD_eq_getElem?_getD,List.getElem?_eq_getElem h2];rfl
 rw[ta,tb];have key:∀(n q:Nat),pc l n q=pc l' n q→∀t,t<4→4*q+t<n→l.getD (4*q+t) 0=l'.getD (4*q+t) 0:=by
  intro n q e t ht hn;have ra:∀(m:List Int) (hm:∀x∈m,Byte x) (u:Nat),0≤(if u<n then m.getD u 0 else 0)∧(if u<n then m.getD u 0 else 0)≤255:=by
   intro m hm u;have:=getD_byte hm u;unfold Byte at this
   split<;>omega
  have a0:=ra l h (4*q);have a1:=ra l h (4*q+1);have a2:=ra l h (4*q+2);have a3:=ra l h (4*q+3);have b0:=ra l' h' (4*q);have b1:=ra l' h' (4*q+1);have b2:=ra l' h' (4*q+2);have b3:=ra l' h' (4*q+3);have hx:(if 4*q+t<n then l.getD (4*q+t) 0 else 0)=(if 4*q+t<n then l'.getD (4*q+t) 0 else 0):=by
   unfold pc at e
   rcases(by omega:t=0∨t=1∨t=2∨t=3)with rfl|rfl|rfl|rfl
   ·rw[Nat.add_zero]at hn ⊢;generalize (if 4*q<n then l.getD (4*q) 0 else 0)=x0 at*
    generalize (if 4*q<n then l'.getD (4*q) 0 else 0)=y0 at*
    omega
   all_goals
    generalize (if 4*q<n then l.getD (4*q) 0 else 0)=x0 at*
    generalize (if 4*q<n then l'.getD (4*q) 0 else 0)=y0 at*
    generalize (if 4*q+1<n then l.getD (4*q+1) 0 else 0)=x1 at*
    generalize (if 4*q+1<n then l'.getD (4*q+1) 0 else 0)=y1 at*
    generalize (if 4*q+2<n then l.getD (4*q+2) 0 else 0)=x2 at*
    generalize (if 4*q+2<n then l'.getD (4*q+2) 0 else 0)=y2 at*
    generalize (if 4*q+3<n then l.getD (4*q+3) 0 else 0)=x3 at*
    generalize (if 4*q+3<n then l'.getD (4*q+3) 0 else 0)=y3 at*
    omega
  rw[if_pos hn,if_pos hn]at hx;exact hx
 have:=key l.length (k/4) ej (k%4) (by omega) (by omega)
 rw[show 4*(k/4)+k%4=k by omega]at this
 exact this
def hashStep (h b:Int):Int:=((Nat.xor h.toNat b.toNat:Nat):Int)*16777619%4294967296
def hashL (l:List Int):Int:=l.foldl hashStep 2166136261
theorem hashStep_range (h b:Int):0≤hashStep h b∧hashStep h b≤4294967295:=by unfold hashStep;omega
theorem hash_take (l:List Int)(i:Nat)(h:i<l.length):hashL (l.take (i+1))=hashStep (hashL (l.take i)) (l.getD i 0):=by
 unfold hashL;rw[List.take_succ_eq_append_getElem h,List.foldl_append]
 simp[List.getD_eq_getElem?_getD,h]
theorem hash_range (l:List Int):0≤hashL l∧hashL l≤4294967295:=by
 rcases List.eq_nil_or_concat l with rfl|⟨l',x,rfl⟩
 ·decide
 ·unfold hashL;rw[List.concat_eq_append,List.foldl_append];exact hashStep_range _ _
def fitL (n:Nat)(acc:List UInt8):List Int→List UInt8
 | []=>acc
 |r::rs=>if(encB r).length+acc.length>n then acc else fitL n (acc++encB r) rs
theorem fitL_cons (n:Nat)(acc:List UInt8)(r:Int)(rs:List Int):fitL n acc (r::rs)=if(encB r).length+acc.length>n then acc else fitL n (acc++encB r) rs:=rfl
def fitS (n:Nat)(rs:List Int):ByteArray:=⟨(fitL n [] rs).toArray⟩
def u8i (bs:List UInt8):List Int:=bs.map fun b=>(b.toNat:Int)
theorem u8i_map (bs:List UInt8):(u8i bs).map (Value.int .u8)=bs.map u8v:=by unfold u8i;rw[List.map_map];rfl
theorem u8i_len (bs:List UInt8):(u8i bs).length=bs.length:=by unfold u8i;simp
theorem ItRow.newB {w wr:World}{s:ByteArray}{pos:Nat}{v:Value}{acc:List UInt8}(h:ItRow w wr s pos 5 (Value.int .u8) v (u8i acc)):NewB w wr v acc:=by
 have:=h.new;unfold NewRow at this;rw[u8i_map,u8i_len]at this;exact this
set_option maxRecDepth 100000 in
set_option maxHeartbeats 2000000 in
theorem utf_fit (s:ByteArray)(hs:s.size≤17592186044416)(n:Nat)(hn:n≤1000)(w:World):
  Z 99 #[.string s,I n] w fun e w'=>e= .returned (.string (fitS n (runesS s)))∧Keeps (· <w.heap.size) w w':=by
 have h0:ItRow w (w.iter s 0) s 0 5 (Value.int .u8) (.slice none 0 0) (u8i []):=⟨World.iter_heap w s 0,⟨rfl,Or.inl ⟨rfl,rfl⟩⟩,(Keeps.refl _ _).alloc (fun b hb=>hb) _,by simp[World.iter]⟩
 have H0:=hid h0;clear h0;refine calls_hide fun R' hR'=>?_
 go_enter Tryz.func99,Tryz.ntmps99
 go_wp2_with fail
 go_loopw[5] (fun ov wr=>∃(pos:Nat) (acc:List UInt8) (A:Option Addr) (cp:Nat),ov= .slice A acc.length cp∧acc.length≤n∧pos≤s.size+4∧wr.heap[w.heap.size]? =some (.stringIter s pos)∧Hid (ItRow w wr s pos 5 (Value.int .u8) (.slice A acc.length cp) (u8i acc))∧Hid (fitL n acc (runesF s s.size pos)=fitL n [] (runesS s))) (fun _ wr=>s.size+4-wr.iterPos w.heap.size)
 case atStart=>exact⟨0,[],none,0,rfl,Nat.zero_le _,Nat.zero_le _,H0.out.it,H0,hid rfl⟩
 case round=>
  obtain⟨pos,acc,A,cp,rfl,hap,hps,hit,HR,HE⟩:=hrel
  by_cases hp:pos<s.size
  ·have hnx:∀ty,(Instr.next (.pointer (some ⟨w.heap.size,0,none⟩)) true ty).run Tryz.prog wr=_:=fun ty=>Lib.run_next_any_at wr w.heap.size s pos ty hit hp
   have zz42:=PLift.up @c280;exact c278
  ·have hnx:∀ty,(Instr.next (.pointer (some ⟨w.heap.size,0,none⟩)) true ty).run Tryz.prog wr=_:=fun ty=>Lib.run_next_end_at wr w.heap.size s pos ty hit hp
   have hex:=HE.out;rw[runesF_end hp]at hex;have hfs:fitS n (runesS s)=⟨acc.toArray⟩:=by unfold fitS;rw[←hex];rfl
   have hcv:=HR.out.newB.conv (P:=Tryz.prog) Tryz.underlying186 Tryz.underlying5 Tryz.underlying9
   have Hex:=hid hex;have Hfs:=hid hfs;clear hex hfs;clear HE
   go_wp2_with fail
   exact hR'.out _ _ ⟨by rw[Hfs.out];rfl,HR.out.keeps⟩
def stopsP:List (List UInt8):=[[97],[97,110],[97,110,100],[97,114,101],[97,115],[97,116],[98,101],[98,121],[102,111,114],[105,110],[105,115],[105,116],[111,102],[111,110],[111,114],[116,104,101],[116,111]]
def stopP (s:ByteArray):Bool:=stopsP.any fun t=>s.toList==t
set_option maxRecDepth 100000 in
set_option maxHeartbeats 2000000 in
theorem token_stop (s:ByteArray)(w:World):Z 101 #[.string s] w fun e w'=>e= .returned (.bool (stopP s))∧w=w':=by
 have hq:stopP s=stopsP.any fun t=>s.toList==t:=rfl;unfold stopsP at hq;simp only[List.any_cons,List.any_nil]at hq;have HQ:=hid hq;clear hq;refine calls_hide fun R' hR'=>?_
 go_enter Tryz.func101,Tryz.ntmps101
 go_wp2_with fail
 all_goals refine hR'.out _ _ ⟨?_,rfl⟩
 all_goals(have hq:=HQ.out;clear HQ hR';first|(exfalso;clear hq;simp_all;done)|(rw[hq];show Ending.returned (.bool _)=Ending.returned (.bool _);congr 2;simp only[*,Bool.true_or,Bool.or_true,Bool.or_false]))
theorem SlAt.rec {α:Type}{f:α→List Value}{sz:Nat}{w:World}{K:Nat→Prop}{A:Option Addr}{c:Nat}{xs:List α}(hf:∀x∈xs,(f x).length=sz)(h:SlAt w K sz (.slice A xs.length c) xs.length (xs.flatMap f))(i:Nat)(x:α)(hi:xs[i]? =some x):
  ∃b off,A=some ⟨b,off,none⟩∧K b∧∀j u,(f x)[j]? =some u→w.cell? ⟨b,off+i*sz+j,none⟩=some u:=by
 obtain⟨A',cap,h1,h2,h3,h4,h5⟩:=h;have hlt:=(List.getElem?_eq_some_iff.1 hi).1;obtain⟨b,off,e,hb,hc⟩:=h5 (by omega)
 injection h1 with h1
 subst e;refine⟨b,off,h1,hb,fun j u hu=>?_⟩;have hj:=(List.getElem?_eq_some_iff.1 hu).1;rw[hf x (List.mem_of_getElem? hi)]at hj;have key:∀(ys:List α) (k:Nat),(∀x∈ys,(f x).length=sz)→ys[k]? =some x→(ys.flatMap f)[k*sz+j]? =some u:=by
  intro ys
  induction ys with
  |nil=>intro k _ hk;simp at hk
  |cons y ys ih=>
   intro k hf hk;have hy:=hf y List.mem_cons_self
   cases k with
   |zero=>
    simp only[List.getElem?_cons_zero,Option.some.injEq]at hk;subst hk;rw[List.flatMap_cons,Nat.zero_mul,Nat.zero_add,List.getElem?_append_left (by rw[hy];exact hj)]
    exact hu
   |succ k=>
    rw[List.getElem?_cons_succ]at hk;have e:(k+1)*sz+j=sz+(k*sz+j):=by rw[Nat.succ_mul];omega
    rw[List.flatMap_cons,e,List.getElem?_append_right (by rw[hy];omega),hy,Nat.add_sub_cancel_left]
    exact ih k (fun x hx=>hf x (List.mem_cons_of_mem _ hx)) hk
 rw[Nat.add_assoc];exact hc _ u (key xs i hf hi)
theorem SlAt.capOf {w:World}{K:Nat→Prop}{sz n:Nat}{A:Option Addr}{c:Nat}{xs:List Value}(h:SlAt w K sz (.slice A n c) n xs):n≤c∧c≤maxLen:=by
 obtain⟨A',cap,h1,h2,h3,_⟩:=h;injection h1 with _ _ hc
 subst hc;exact⟨h2,h3⟩
theorem ownB_set {w:World}{B E n sz g cap k:Nat}{xs:List Value}(h:w.ownsRow B E sz (.slice (some ⟨g,0,none⟩) n cap) n xs)(hn:0<n)(hk:k<xs.length)(u:Value):(w.setCell ⟨g,k,none⟩ u).ownsRow B E sz (.slice (some ⟨g,0,none⟩) n cap) n (xs.set k u):=by
 refine⟨by rw[List.length_set];exact h.1,?_⟩
 rcases h.2 with⟨h1,h2⟩|⟨g',c',cur,h1,h2,h3,h4,h5,h6,h7⟩
 ·omega
 ·injection h1 with e1 e2 e3
  injection e1 with e1
  injection e1 with e1
  subst e1 e3;refine Or.inr ⟨g,cap,cur.setIfInBounds k u,rfl,h2,by simp[World.setCell,Array.getElem?_modify,h3],h4,h5,by simpa using h6,?_⟩
  rw[Array.toList_setIfInBounds,List.take_set,h7]
theorem ownB_free {w:World}{B E n sz g cap:Nat}{xs:List Value}(h:w.ownsRow B E sz (.slice (some ⟨g,0,none⟩) n cap) n xs)(hn:0<n)(k:Nat):w.frozen? ⟨g,k,none⟩=false:=by
 rcases h.2 with⟨h1,h2⟩|⟨g',c',cur,h1,h2,h3,h4⟩
 ·omega
 ·injection h1 with e1 e2 e3
  injection e1 with e1
  injection e1 with e1
  subst e1
  simp[World.frozen?,h3]
theorem flat_set {α:Type}{f:α→List Value}{sz:Nat}(hf:∀x,(f x).length=sz):∀(l:List α) (i j:Nat) (a a':α) (u:Value),l[i]? =some a→j<sz→f a'=(f a).set j u→(l.flatMap f).set (i*sz+j) u=(l.set i a').flatMap f
 | [],i,j,a,a',u,h,_,_=>by cases h
 |x::l,0,j,a,a',u,h,hj,he=>by
  injection h with h
  subst h;rw[List.flatMap_cons,Nat.zero_mul,Nat.zero_add,List.set_append_left _ _ (by rw[hf];exact hj),List.set_cons_zero,List.flatMap_cons,he]
 |x::l,i+1,j,a,a',u,h,hj,he=>by
  rw[List.flatMap_cons,List.set_append_right _ _ (by rw[hf,Nat.succ_mul];omega),hf,show(i+1)*sz+j-sz=i*sz+j by rw[Nat.succ_mul];omega,flat_set hf l i j a a' u h hj he,List.set_cons_succ,List.flatMap_cons]
theorem flat_lenS {α:Type}{f:α→List Value}{sz:Nat}(hf:∀x,(f x).length=sz):∀l:List α,(l.flatMap f).length=l.length*sz
 | []=>by simp
 |x::l=>by rw[List.flatMap_cons,List.length_append,hf,flat_lenS hf l,List.length_cons,Nat.succ_mul];omega
theorem flat_getS {α:Type}{f:α→List Value}{sz:Nat}(hf:∀x,(f x).length=sz):∀(l:List α) (i j:Nat) (a:α),l[i]? =some a→j<sz→(l.flatMap f)[i*sz+j]? =(f a)[j]?
 | [],i,j,a,h,_=>by cases h
 |x::l,0,j,a,h,hj=>by
  injection h with h
  subst h;rw[List.flatMap_cons,Nat.zero_mul,Nat.zero_add,List.getElem?_append_left (by rw[hf];exact hj)]
 |x::l,i+1,j,a,h,hj=>by
  rw[List.flatMap_cons,List.getElem?_append_right (by rw[hf,Nat.succ_mul];omega),hf,show(i+1)*sz+j-sz=i*sz+j by rw[Nat.succ_mul];omega,flat_getS hf l i j a h hj]
theorem own_rec {α:Type}{f:α→List Value}{sz:Nat}(hf:∀x,(f x).length=sz){w:World}{B:Nat}{E:TypeId}{A:Option Addr}{cap:Nat}{l:List α}(h:w.ownsRow B E sz (.slice A l.length cap) l.length (l.flatMap f)){i:Nat}{a:α}(hi:l[i]? =some a):
  ∃g,A=some ⟨g,0,none⟩∧∀(j:Nat) (u:Value),j<sz→(f a)[j]? =some u→w.cell? ⟨g,i*sz+j,none⟩=some u:=by
 obtain⟨g,c9,hp⟩:=ownB_posS h (by have:=(List.getElem?_eq_some_iff.1 hi).1;omega)
 injection hp with e1 _ e3
 subst e1 e3;refine⟨g,rfl,fun j u hj hu=>?_⟩;have:=own_newsS h (i*sz+j) u (by rw[flat_getS hf l i j a hi hj];exact hu)
 rwa [Addr.add_lit,Nat.zero_add]at this
theorem own_recSet {α:Type}{f:α→List Value}{sz:Nat}(hf:∀x,(f x).length=sz){w:World}{B E g cap:Nat}{l:List α}(h:w.ownsRow B E sz (.slice (some ⟨g,0,none⟩) l.length cap) l.length (l.flatMap f)){i j:Nat}{a a':α}{u:Value}(hi:l[i]? =some a)(hj:j<sz)(he:f a'=(f a).set j u):
  (w.setCell ⟨g,i*sz+j,none⟩ u).ownsRow B E sz (.slice (some ⟨g,0,none⟩) (l.set i a').length cap) (l.set i a').length ((l.set i a').flatMap f):=by
 have hil:=(List.getElem?_eq_some_iff.1 hi).1;have hlt:i*sz+j<l.length*sz:=by
  have:(i+1)*sz≤l.length*sz:=Nat.mul_le_mul_right _ hil;rw[Nat.succ_mul]at this
  omega
 have:=ownB_set h (by omega) (k:=i*sz+j) (by rw[flat_lenS hf];exact hlt) u
 rw[List.length_set,←flat_set hf l i j a a' u hi hj he];exact this
end Go.Proofs.YtogdknnkhkjmcaaGreatDoor
namespace Go.Proofs.YtogdknnkhkjmcaaGreatDoor
set_option linter.all false
section
variable {P:Program}{S Su:World→Prop}{md:Region.Mode}{Q:Exit→Act→World→Prop}
theorem min_unlisted {n:Nat}{listed:Array Bool}(h:¬∀i,i<n→listed.getD i true=true):∃i,i<n∧listed.getD i true=false∧∀j,j<i→listed.getD j true=true:=by
 have key:∀m,m≤n→(∀i,i<m→listed.getD i true=true)∨∃i,i<n∧listed.getD i true=false∧∀j,j<i→listed.getD j true=true:=by
  intro m
  induction m with
  |zero=>intro _;exact Or.inl fun i hi=>by omega
  |succ m ih=>
   intro hm
   rcases ih (by omega)with h1|h1
   ·cases hb:listed.getD m true
    ·exact Or.inr ⟨m,by omega,hb,h1⟩
    ·refine Or.inl fun i hi=>?_
     by_cases hm:i=m
     ·rw[hm];exact hb
     ·exact h1 i (by omega)
   ·exact Or.inr h1
 rcases key n (Nat.le_refl _)with h1|h1
 ·exact absurd h1 h
 ·exact h1
theorem getD_flip {listed:Array Bool}{i:Nat}(hi:i<listed.size)(h:listed.getD i true=true):listed.getD i false=true:=by
 simp[hi]at h ⊢;exact h
theorem wpAnyH_more {ops:Array Oper}:∀(f:Nat) (listed:Array Bool) (a:Act) (w:World),wpAnyH P md ops Q S f listed a w→wpAnyH P md ops Q S (f+1) listed a w
 |0,_,_,_,h=>⟨fun _=>h.2,fun i hi=>by rw[h.1]at hi;cases hi⟩
 |f+1,_,_,_,h=>⟨h.1,fun i hi=>wpOp_mono (fun a' w' h'=>⟨h'.1,wpAnyH_more f _ a' w' h'.2⟩) (h.2 i hi)⟩
theorem wpAnyH_mores {ops:Array Oper}(f:Nat)(listed:Array Bool)(a:Act)(w:World)(h:wpAnyH P md ops Q S f listed a w):∀k,wpAnyH P md ops Q S (k+f) listed a w
 |0=>by rw[Nat.zero_add];exact h
 |k+1=>by rw[show k+1+f=(k+f)+1 by omega];exact wpAnyH_more _ _ _ _ (wpAnyH_mores f listed a w h k)
def Behind (R:Act→World→Prop)(Q:Exit→Act→World→Prop):Exit→Act→World→Prop
 | .normal,a,w=>R a w
 | .ret,a,w=>Q .ret a w
 | .exit i,a,w=>Q (.exit i) a w
 | .goto i,a,w=>Q (.goto i) a w
 | .panic c,a,w=>Q (.panic c) a w
 | .outgrown,a,w=>Q .outgrown a w
theorem upon_behind {R:Act→World→Prop}{o:Oper}{a:Act}{K:Act→World→Prop}{r:Result Next}(h:o.upon P a K (Behind R Q) r):o.upon P a K Q r:=by
 cases r with
 |ok n w'=>cases n<;>exact h
 |halt x w'=>cases x<;>exact h
theorem wpOp_behind {l:List Oper}{n i:Nat}{R:Act→World→Prop}(hi:i<n)(hg:∀o,l[i]? =some o→∀j b,o.guard=some (j,b)→j<n){K:Act→World→Prop}{a:Act}{w:World}
  (h:wpOp P (l.take n).toArray (Behind R Q) i K a w):wpOp P l.toArray Q i K a w:=by
 have e:(l.take n).toArray[i]? =l.toArray[i]? :=by simp[List.getElem?_take,hi]
 unfold wpOp at*;rw[e]at h
 cases ho:l.toArray[i]? with
 |none=>rw[ho]at h;exact h
 |some o=>
  rw[ho]at h;simp only at h ⊢;have hw:Region.wanted o (yielded (l.take n).toArray a.tmps)=Region.wanted o (yielded l.toArray a.tmps):=by
   unfold Region.wanted
   cases hgd:o.guard with
   |none=>rfl
   |some x=>
    obtain⟨j,b⟩:=x;have hj:=hg o (by simpa using ho) j b hgd
    have e2:(l.take n).toArray[j]? =l.toArray[j]? :=by simp[List.getElem?_take,hj]
    simp only[yielded,e2]
  rw[hw]at h
  split
  ·rename_i hx
   rw[if_pos hx]at h
   rcases h with h|⟨h1,h2⟩
   ·exact Or.inl (upon_behind h)
   ·exact Or.inr ⟨h1,h2⟩
  ·rename_i hx
   rw[if_neg hx]at h;exact h
def headB (md:Region.Mode)(l:List Oper)(n:Nat)(pre:List Nat):Bool:=
 decide (n<l.length)&&Region.chainB md l.toArray n&&
 ((List.range n).all fun i=>pre.contains i||(List.range (n+1)).any fun j=>decide (i<j)&&Region.waitsFor md l.toArray j i)&&
 ((List.range n).all fun i=>match l[i]? with
  |some o=>(o.after.all fun e=> !Region.binds md e||decide (e.on<i))&&(match o.guard with|some (j,_)=>decide (j<n)|none=>true)
  |none=>true)
def preB (md:Region.Mode)(l:List Oper)(n:Nat)(pre:List Nat)(listed:Array Bool):Bool:=
 decide (listed.size=l.length)&&
 ((List.range l.length).all fun j=>match l[j]? with
  |some o=> !listed.getD j false||o.after.all fun e=> !Region.binds md e||listed.getD e.on false
  |none=>true)&&
 ((List.range l.length).all fun t=>decide (t<n)|| !listed.getD t true)&&pre.all fun i=>listed.getD i false
theorem waits_head {l:List Oper}{n:Nat}{pre:List Nat}{listed:Array Bool}(hB:headB md l n pre=true)(inv:HeadInv md l.toArray n listed)(hpre:∀i∈pre,listed.getD i false=true):
  ∀(d i:Nat),n-i=d→i<n→listed.getD i true=false→∀t,n≤t→t∉Region.ready md l.toArray listed:=by
 simp only[headB,Bool.and_eq_true,decide_eq_true_eq]at hB;obtain⟨⟨⟨hn,hc⟩,hs⟩,_⟩:=hB;intro d
 induction d using Nat.strongRecOn with
 |_ d ih=>
  intro i hd hi hun t ht hr;obtain⟨_,ot,hot,hall⟩:=mem_ready.1 hr;have htlt:t<l.toArray.size:=(Array.getElem?_eq_some_iff.1 hot).1
  by_cases htn:t=n
  ·exact c41
  ·have h1:=List.all_eq_true.1 hc t (List.mem_range.2 htlt);simp only[Bool.or_eq_true,decide_eq_true_eq]at h1
   rcases h1 with h1|h1
   ·omega
   ·obtain⟨o',ho',e,he,hb,hon⟩:=Region.waitsFor_spec h1;obtain rfl:o'=ot:=Option.some.inj (ho'.symm.trans hot);have h2:=hall e he hb;rw[hon,getD_both (inv.tail (t-1) (by omega) (by omega))]at h2
    cases h2
theorem head_anyH {l:List Oper}{n:Nat}{pre:List Nat}(hB:headB md l n pre=true)(hSS:∀w,S w→Su w):
  ∀(f:Nat) (L listed:Array Bool) (a:Act) (w:World),HeadInv md l.toArray n listed→(∀i∈pre,listed.getD i false=true)→L.size=n→(∀i,i<n→listed.getD i true=L.getD i true)→
   wpAnyH P md (l.take n).toArray (Behind (wpAnyH P md l.toArray Q Su (l.length-n) (Array.replicate n true++Array.replicate (l.length-n) false)) Q) S f L a w→wpAnyH P md l.toArray Q Su (f+(l.length-n)) listed a w:=by
 have hB':=hB;simp only[headB,Bool.and_eq_true,decide_eq_true_eq]at hB;have zz20:=PLift.up @c206;exact c205
theorem wpAnyH_head {l:List Oper}{a:Act}{w:World}{listed:Array Bool}(n f:Nat)(pre:List Nat)(L:Array Bool)(hB:headB md l n pre=true)(hP:preB md l n pre listed=true)(hL:(decide (L.size=n)&&(List.range n).all fun i=>listed.getD i true==L.getD i true)=true)(hSS:∀w,S w→Su w)
  (h:wpAnyH P md (l.take n).toArray (Behind (wpAnyH P md l.toArray Q Su (l.length-n) (Array.replicate n true++Array.replicate (l.length-n) false)) Q) S f L a w):wpAnyH P md l.toArray Q Su (f+(l.length-n)) listed a w:=by
 simp only[preB,Bool.and_eq_true,decide_eq_true_eq]at hP;obtain⟨⟨⟨p1,p2⟩,p3⟩,p4⟩:=hP;simp only[Bool.and_eq_true,decide_eq_true_eq]at hL;refine head_anyH hB hSS f L listed a w ⟨by rw[p1];simp,fun j oj hj hl e he hb=>?_,fun t ht ht'=>?_⟩ (fun i hi=>List.all_eq_true.1 p4 i hi) hL.1 (fun i hi=>?_) h
 ·exact c95
 ·exact c129
 ·have h1:=List.all_eq_true.1 hL.2 i (List.mem_range.2 hi)
  simpa using h1
end
end Go.Proofs.YtogdknnkhkjmcaaGreatDoor
