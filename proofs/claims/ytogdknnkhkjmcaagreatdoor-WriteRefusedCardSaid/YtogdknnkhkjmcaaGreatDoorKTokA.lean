/- Lemmas on the programs that the statement reaches. -/
import Derived.Test.YtogdknnkhkjmcaaGreatDoorKOpen
namespace Go.Proofs.YtogdknnkhkjmcaaGreatDoor
open Go.RowKit
set_option linter.all false
def bsL (s:ByteArray):List Int:=s.data.toList.map fun b=>(b.toNat:Int)
theorem bsL_len (s:ByteArray):(bsL s).length=s.size:=by simp[bsL]
theorem bsL_range (s:ByteArray):∀x∈bsL s,0≤x∧x≤255:=by
 intro x hx;simp only[bsL,List.mem_map]at hx;obtain⟨b,_,rfl⟩:=hx;have:=b.toNat_lt
 omega
theorem bsL_get (s:ByteArray)(i:Nat)(h:i<s.size):(bsL s).getD i 0=(s[i].toNat:Int):=by
 have h1:i<(bsL s).length:=by rw[bsL_len];exact h
 rw[List.getD_eq_getElem?_getD,List.getElem?_eq_getElem h1]
 simp[bsL]
 rfl
theorem bsL_inj {s t:ByteArray}(h:bsL s=bsL t):s=t:=by
 have:s.data.toList=t.data.toList:=by
  unfold bsL at h;refine List.map_inj_right ?_|>.1 h
  intro x y e;have e:(x.toNat:Int)=y.toNat:=e;exact UInt8.toNat_inj.1 (by omega)
 have h2:s.data=t.data:=Array.toList_inj.1 this
 cases s;cases t;simp_all
def pc (l:List Int)(i j:Nat):Int:=
 (if 4*j<i then l.getD (4*j) 0 else 0)+256*(if 4*j+1<i then l.getD (4*j+1) 0 else 0)+
  65536*(if 4*j+2<i then l.getD (4*j+2) 0 else 0)+16777216*(if 4*j+3<i then l.getD (4*j+3) 0 else 0)
def pcs (l:List Int)(n i:Nat):List Int:=(List.range n).map (pc l i)
def packC (l:List Int):List Int:=pcs l ((l.length+3)/4) l.length
theorem pcs_len (l:List Int)(n i:Nat):(pcs l n i).length=n:=by simp[pcs]
theorem packC_len (l:List Int):(packC l).length=(l.length+3)/4:=pcs_len _ _ _
theorem pcs_get (l:List Int)(n i j:Nat)(h:j<n):(pcs l n i)[j]? =some (pc l i j):=by
 simp[pcs,h]
theorem pcs_zero (l:List Int)(n:Nat):pcs l n 0=List.replicate n 0:=by
 apply List.ext_getElem?
 intro j
 by_cases h:j<n
 ·rw[pcs_get l n 0 j h,List.getElem?_replicate,if_pos h];simp[pc]
 ·rw[List.getElem?_eq_none (by rw[pcs_len];omega),List.getElem?_replicate,if_neg h]
def Byte (x:Int):Prop:=0≤x∧x≤255
theorem getD_byte {l:List Int}(h:∀x∈l,Byte x)(k:Nat):Byte (l.getD k 0):=by
 rw[List.getD_eq_getElem?_getD]
 cases e:l[k]? with
 |none=>exact⟨by simp,by simp⟩
 |some x=>exact h x (List.mem_of_getElem? e)
theorem pc_range {l:List Int}(h:∀x∈l,Byte x)(i j:Nat):0≤pc l i j∧pc l i j≤4294967295:=by
 have h0:=getD_byte h (4*j);have h1:=getD_byte h (4*j+1);have h2:=getD_byte h (4*j+2);have h3:=getD_byte h (4*j+3);unfold Byte at h0 h1 h2 h3;unfold pc
 split<;>split<;>split<;>split<;>omega
theorem packC_range {l:List Int}(h:∀x∈l,Byte x):∀x∈packC l,0≤x∧x≤4294967295:=by
 intro x hx;simp only[packC,pcs,List.mem_map]at hx;obtain⟨j,_,rfl⟩:=hx;exact pc_range h _ _
def pw (r:Nat):Int:=if r=0 then 1 else if r=1 then 256 else if r=2 then 65536 else 16777216
theorem pc_low {l:List Int}(h:∀x∈l,Byte x)(i:Nat):0≤pc l i (i/4)∧pc l i (i/4)<pw (i%4):=by
 have h0:=getD_byte h (4*(i/4));have h1:=getD_byte h (4*(i/4)+1);have h2:=getD_byte h (4*(i/4)+2);unfold Byte at h0 h1 h2;generalize hq:i/4=q at*;generalize hr:i%4=r at*;have hi:i=4*q+r:=by omega
 have hr4:r<4:=by omega
 subst hi;unfold pc pw
 rcases(by omega:r=0∨r=1∨r=2∨r=3)with rfl|rfl|rfl|rfl
 ·rw[if_neg (by omega),if_neg (by omega),if_neg (by omega),if_neg (by omega)];simp
 ·rw[if_pos (by omega),if_neg (by omega),if_neg (by omega),if_neg (by omega)];exact⟨by omega,by rw[if_neg (by decide),if_pos rfl];omega⟩
 ·rw[if_pos (by omega),if_pos (by omega),if_neg (by omega),if_neg (by omega)];exact⟨by omega,by rw[if_neg (by decide),if_neg (by decide),if_pos rfl];omega⟩
 ·rw[if_pos (by omega),if_pos (by omega),if_pos (by omega),if_neg (by omega)];exact⟨by omega,by rw[if_neg (by decide),if_neg (by decide),if_neg (by decide)];omega⟩
theorem pc_next (l:List Int)(i j:Nat):pc l (i+1) j=if j=i/4 then pc l i j+l.getD i 0*pw (i%4)else pc l i j:=by
 generalize hq:i/4=q at*;generalize hr:i%4=r at*;have hi:i=4*q+r:=by omega
 have hr4:r<4:=by omega
 subst hi;unfold pc pw
 by_cases hj:j=q
 ·subst hj;rw[if_pos rfl]
  rcases(by omega:r=0∨r=1∨r=2∨r=3)with rfl|rfl|rfl|rfl
  ·rw[if_pos (by omega),if_neg (by omega),if_neg (by omega),if_neg (by omega),if_neg (by omega),if_neg (by omega),if_neg (by omega),if_neg (by omega)];simp
  ·rw[if_pos (by omega),if_pos (by omega),if_neg (by omega),if_neg (by omega),if_pos (by omega),if_neg (by omega),if_neg (by omega),if_neg (by omega)];simp;omega
  ·rw[if_pos (by omega),if_pos (by omega),if_pos (by omega),if_neg (by omega),if_pos (by omega),if_pos (by omega),if_neg (by omega),if_neg (by omega)];simp;omega
  ·rw[if_pos (by omega),if_pos (by omega),if_pos (by omega),if_pos (by omega),if_pos (by omega),if_pos (by omega),if_pos (by omega),if_neg (by omega)];simp;omega
 ·rw[if_neg hj]
  rcases Nat.lt_or_gt_of_ne hj with h|h
  ·rw[if_pos (by omega),if_pos (by omega),if_pos (by omega),if_pos (by omega),if_pos (by omega),if_pos (by omega),if_pos (by omega),if_pos (by omega)]
  ·rw[if_neg (by omega),if_neg (by omega),if_neg (by omega),if_neg (by omega),if_neg (by omega),if_neg (by omega),if_neg (by omega),if_neg (by omega)]
theorem pcs_next (l:List Int)(n i:Nat):(pcs l n i).set (i/4) (pc l i (i/4)+l.getD i 0*pw (i%4))=pcs l n (i+1):=by
 apply List.ext_getElem?
 intro j
 by_cases h:j<n
 ·rw[pcs_get l n (i+1) j h,pc_next]
  by_cases hj:j=i/4
  ·subst hj;rw[if_pos rfl,List.getElem?_set_self (by rw[pcs_len];exact h)]
  ·rw[if_neg hj,List.getElem?_set_ne (fun e=>hj e.symm),pcs_get l n i j h]
 ·rw[List.getElem?_eq_none (by rw[List.length_set,pcs_len];omega),List.getElem?_eq_none (by rw[pcs_len];omega)]
theorem packC_inj {l l':List Int}(h:∀x∈l,Byte x)(h':∀x∈l',Byte x)(hl:l.length=l'.length)(e:packC l=packC l'):l=l':=by
 apply List.ext_getElem hl
 intro k h1 h2;have ej:=congrArg (fun L=>L[k/4]?) e;simp only[packC]at ej;rw[pcs_get _ _ _ _ (by omega),pcs_get _ _ _ _ (by omega),←hl]at ej
 injection ej with ej
 have ta:l[k]=l.getD k 0:=by rw[List.getD_eq_getElem?_getD,List.getElem?_eq_getElem h1];rfl
 have tb:l'[k]=l'.getD k 0:=by rw[List.getD_eq_getElem?_getD,List.getElem?_eq_getElem h2];rfl
 rw[ta,tb];have key:∀(n q:Nat),pc l n q=pc l' n q→∀t,t<4→4*q+t<n→l.getD (4*q+t) 0=l'.getD (4*q+t) 0:=by
  intro n q e t ht hn;have ra:∀(m:List Int) (hm:∀x∈m,Byte x) (u:Nat),0≤(if u<n then m.getD u 0 else 0)∧(if u<n then m.getD u 0 else 0)≤255:=by
   intro m hm u;have:=getD_byte hm u;unfold Byte at this
   split<;>omega
  have a0:=ra l h (4*q);have a1:=ra l h (4*q+1);have a2:=ra l h (4*q+2);have a3:=ra l h (4*q+3);have b0:=ra l' h' (4*q);have b1:=ra l' h' (4*q+1);have b2:=ra l' h' (4*q+2);have b3:=ra l' h' (4*q+3);have hx:(if 4*q+t<n then l.getD (4*q+t) 0 else 0)=(if 4*q+t<n then l'.getD (4*q+t) 0 else 0):=by
   unfold pc at e
   rcases(by omega:t=0∨t=1∨t=2∨t=3)with rfl|rfl|rfl|rfl
   ·rw[Nat.add_zero]at hn ⊢;generalize (if 4*q<n then l.getD (4*q) 0 else 0)=x0 at*
    generalize (if 4*q<n then l'.getD (4*q) 0 else 0)=y0 at*
    omega
   all_goals
    generalize (if 4*q<n then l.getD (4*q) 0 else 0)=x0 at*
    generalize (if 4*q<n then l'.getD (4*q) 0 else 0)=y0 at*
    generalize (if 4*q+1<n then l.getD (4*q+1) 0 else 0)=x1 at*
    generalize (if 4*q+1<n then l'.getD (4*q+1) 0 else 0)=y1 at*
    generalize (if 4*q+2<n then l.getD (4*q+2) 0 else 0)=x2 at*
    generalize (if 4*q+2<n then l'.getD (4*q+2) 0 else 0)=y2 at*
    generalize (if 4*q+3<n then l.getD (4*q+3) 0 else 0)=x3 at*
    generalize (if 4*q+3<n then l'.getD (4*q+3) 0 else 0)=y3 at*
    omega
  rw[if_pos hn,if_pos hn]at hx;exact hx
 have:=key l.length (k/4) ej (k%4) (by omega) (by omega)
 rw[show 4*(k/4)+k%4=k by omega]at this
 exact this
def hashStep (h b:Int):Int:=((Nat.xor h.toNat b.toNat:Nat):Int)*16777619%4294967296
def hashL (l:List Int):Int:=l.foldl hashStep 2166136261
theorem hashStep_range (h b:Int):0≤hashStep h b∧hashStep h b≤4294967295:=by unfold hashStep;omega
theorem hash_take (l:List Int)(i:Nat)(h:i<l.length):hashL (l.take (i+1))=hashStep (hashL (l.take i)) (l.getD i 0):=by
 unfold hashL;rw[List.take_succ_eq_append_getElem h,List.foldl_append]
 simp[List.getD_eq_getElem?_getD,h]
theorem hash_range (l:List Int):0≤hashL l∧hashL l≤4294967295:=by
 rcases List.eq_nil_or_concat l with rfl|⟨l',x,rfl⟩
 ·decide
 ·unfold hashL;rw[List.concat_eq_append,List.foldl_append];exact hashStep_range _ _
def runesF (s:ByteArray):Nat→Nat→List Int
 |0,_=>[]
 |f+1,p=>if p<s.size then((Utf8.decode s p).1:Int)::runesF s f (p+(Utf8.decode s p).2)else []
def runesS (s:ByteArray):List Int:=runesF s s.size 0
theorem decode_pos (s:ByteArray)(p:Nat):0<(Utf8.decode s p).2:=by
 simp only[Utf8.decode]
 repeat' split
 all_goals simp
theorem runesF_succ (s:ByteArray)(f p:Nat):runesF s (f+1) p=if p<s.size then((Utf8.decode s p).1:Int)::runesF s f (p+(Utf8.decode s p).2)else []:=rfl
theorem runesF_more (s:ByteArray):∀(f p:Nat),s.size≤p+f→runesF s (f+1) p=runesF s f p
 |0,p,h=>by
  rw[runesF_succ,if_neg (by omega)];rfl
 |f+1,p,h=>by
  have hd:=decode_pos s p;rw[runesF_succ s (f+1) p,runesF_succ s f p]
  by_cases hp:p<s.size
  ·rw[if_pos hp,if_pos hp,runesF_more s f _ (by omega)]
  ·rw[if_neg hp,if_neg hp]
theorem runesF_any (s:ByteArray)(f p:Nat)(h:s.size≤p+f):∀g,runesF s (f+g) p=runesF s f p
 |0=>rfl
 |g+1=>by rw[←Nat.add_assoc,runesF_more s (f+g) p (by omega),runesF_any s f p h g]
theorem runesF_next {s:ByteArray}{f p:Nat}(hp:p<s.size)(h:s.size≤p+f):runesF s f p=((Utf8.decode s p).1:Int)::runesF s f (p+(Utf8.decode s p).2):=by
 obtain⟨f,rfl⟩:∃f',f=f'+1:=⟨f-1,by omega⟩
 have hd:=decode_pos s p;rw[runesF_succ,if_pos hp,runesF_any s f _ (by omega) 1]
theorem runesF_end {s:ByteArray}{f p:Nat}(hp:¬p<s.size):runesF s f p=[]:=by
 cases f with
 |zero=>rfl
 |succ f=>rw[runesF_succ,if_neg hp]
theorem decode_four (s:ByteArray)(p:Nat):(Utf8.decode s p).2≤4:=by
 simp only[Utf8.decode]
 repeat' split
 all_goals simp
theorem runesF_len (s:ByteArray):∀f p,(runesF s f p).length≤f
 |0,_=>Nat.le_refl _
 |f+1,p=>by
  unfold runesF
  split
  ·have:=runesF_len s f (p+(Utf8.decode s p).2);simp;omega
  ·simp
structure ItRow (w wr:World)(s:ByteArray)(pos:Nat)(E:TypeId)(f:Int→Value)(v:Value)(acc:List Int):Prop where
 it:wr.heap[w.heap.size]? =some (.stringIter s pos)
 own:wr.ownsRow (w.heap.size+1) E 1 v acc.length (acc.map f)
 keeps:Keeps (· <w.heap.size) w wr
 lt:w.heap.size<wr.heap.size
theorem ItRow.iter {w wr:World}{s:ByteArray}{pos:Nat}{E:TypeId}{f:Int→Value}{v:Value}{acc:List Int}(h:ItRow w wr s pos E f v acc)(pos':Nat):ItRow w (wr.iterAt w.heap.size s pos') s pos' E f v acc:=by
 have k:Keeps (· ≠w.heap.size) wr (wr.iterAt w.heap.size s pos'):=⟨rfl,rfl,rfl,by rw[Lib.iterAt_size];exact Nat.le_refl _,fun b hb=>Lib.iterAt_other wr w.heap.size b s pos' hb⟩
 exact⟨Lib.iterAt_heap wr w.heap.size s pos pos' h.it,ownB_keep h.own k (fun b hB _ _=>by show b≠w.heap.size;omega),h.keeps.trans (k.mono fun b hb=>by show b≠w.heap.size;omega),by rw[Lib.iterAt_size];exact h.lt⟩
theorem ItRow.push {w wr w2 w':World}{s:ByteArray}{pos:Nat}{E:TypeId}{f:Int→Value}{v v':Value}{acc acc':List Int}(h:ItRow w wr s pos E f v acc)(k:Keeps (· <wr.heap.size) wr w2)(hown:w'.ownsRow (w.heap.size+1) E 1 v' acc'.length (acc'.map f))(hg:w2.grownBy w' v.ownBlock):ItRow w w' s pos E f v' acc':=by
 have ho:=ownB_keepS h.own k;have hs:=k.size;have hlt:=h.lt;refine⟨?_,hown,keeps_grown (h.keeps.trans (k.mono fun b hb=>by omega)) (by omega) (B:=w.heap.size) (E:=E) (n:=acc.length) (sz:=1) (xs:=acc.map f) ⟨ho.1,?_⟩ hg,Nat.lt_of_lt_of_le (Nat.lt_of_lt_of_le hlt hs) hg.size⟩
 ·rw[hg.block _ (by omega) (fun e=>by have:=(ownB_lt ho e.symm).1;omega),k.block _ hlt]
  exact h.it
 ·rcases ho.2 with h1|⟨g,c,cur,h1,h2,h3⟩
  ·exact Or.inl h1
  ·exact Or.inr ⟨g,c,cur,h1,by omega,h3⟩
theorem ItRow.new {w wr:World}{s:ByteArray}{pos:Nat}{E:TypeId}{f:Int→Value}{v:Value}{acc:List Int}(h:ItRow w wr s pos E f v acc):NewRow w wr E f v acc:=by
 refine⟨⟨h.own.1,?_⟩,h.keeps⟩
 rcases h.own.2 with h1|⟨g,c,cur,h1,h2,h3⟩
 ·exact Or.inl h1
 ·exact Or.inr ⟨g,c,cur,h1,by omega,h3⟩
theorem Tryz.infoI32:(Tryz.prog.info? 21).map (fun i=>(i.zero,i.size,i.bytes))=some (some (.int .i32 0),1,4):=by kernel_rfl
set_option maxRecDepth 100000 in
set_option maxHeartbeats 1000000 in
theorem utf_runes (s:ByteArray)(hs:s.size≤17592186044416)(w:World):Z 96 #[.string s] w fun e w'=>∃v,e= .returned v∧NewRow w w' 21 (Value.int .i32) v (runesS s):=by
 have h0:ItRow w (w.iter s 0) s 0 21 (Value.int .i32) (.slice none 0 0) []:=⟨World.iter_heap w s 0,⟨rfl,Or.inl ⟨rfl,rfl⟩⟩,(Keeps.refl _ _).alloc (fun b hb=>hb) _,by simp[World.iter]⟩
 have H0:=hid h0;clear h0;refine calls_hide fun R' hR'=>?_
 go_enter Tryz.func96,Tryz.ntmps96
 go_wp2_with fail
 go_loopw[3] (fun ov wr=>∃(pos:Nat) (acc:List Int) (A:Option Addr) (cp:Nat),ov= .slice A acc.length cp∧acc.length≤pos∧pos≤s.size+4∧wr.heap[w.heap.size]? =some (.stringIter s pos)∧Hid (ItRow w wr s pos 21 (Value.int .i32) (.slice A acc.length cp) acc)∧Hid (acc++runesF s s.size pos=runesS s)) (fun _ wr=>s.size+4-wr.iterPos w.heap.size)
 case atStart=>exact⟨0,[],none,0,rfl,Nat.le_refl _,Nat.zero_le _,H0.out.it,H0,hid rfl⟩
 case round=>
  obtain⟨pos,acc,A,cp,rfl,hap,hps,hit,HR,HE⟩:=hrel
  by_cases hp:pos<s.size
  ·have hnx:∀ty,(Instr.next (.pointer (some ⟨w.heap.size,0,none⟩)) true ty).run Tryz.prog wr=_:=fun ty=>Lib.run_next_any_at wr w.heap.size s pos ty hit hp
   have zz44:=PLift.up @c294;exact c293
  ·have hnx:∀ty,(Instr.next (.pointer (some ⟨w.heap.size,0,none⟩)) true ty).run Tryz.prog wr=_:=fun ty=>Lib.run_next_end_at wr w.heap.size s pos ty hit hp
   have hex:=HE.out;rw[runesF_end hp,List.append_nil]at hex;have Hex:=hid hex;clear hex
   go_wp2_with fail
   exact hR'.out _ _ ⟨_,rfl,by have:=HR.out.new;rw[Hex.out]at this;rw[Hex.out];exact this⟩
def encB (r:Int):List UInt8:=(Utf8.encode r).data.toList
def textB (rs:List Int):List UInt8:=rs.flatMap encB
def textS (rs:List Int):ByteArray:=⟨(textB rs).toArray⟩
def u8v (b:UInt8):Value:= .int .u8 (b.toNat:Int)
theorem enc_size (r:Int):(Utf8.encode r).size=(encB r).length:=rfl
theorem encB_four (r:Int):(encB r).length≤4:=by
 unfold encB;simp only[Utf8.encode]
 repeat' split
 all_goals simp
theorem encB_pos (r:Int):0<(encB r).length:=by
 unfold encB;simp only[Utf8.encode]
 repeat' split
 all_goals simp
theorem textB_len (rs:List Int):(textB rs).length≤4*rs.length:=by
 induction rs with
 |nil=>simp[textB]
 |cons r rs ih=>
  have:=encB_four r;simp only[textB,List.flatMap_cons,List.length_append,List.length_cons]at*
  omega
theorem textB_snoc (rs:List Int)(r:Int):textB (rs++[r])=textB rs++encB r:=by simp[textB]
theorem textB_cons (rs:List Int)(r:Int):textB (r::rs)=encB r++textB rs:=by simp[textB]
def NewB (w0 w:World)(v:Value)(bs:List UInt8):Prop:=w.ownsRow w0.heap.size 5 1 v bs.length (bs.map u8v)∧Keeps (· <w0.heap.size) w0 w
theorem NewB.app {w0 wr w':World}{v v':Value}{acc:List UInt8}{r:Int}(h:NewB w0 wr v acc)(hown:w'.ownsRow w0.heap.size 5 1 v' (acc.length+(Utf8.encode r).size) (acc.map u8v++Lib.strCells (Utf8.encode r)))(hg:wr.grownBy w' v.ownBlock):NewB w0 w' v' (acc++encB r):=by
 refine⟨by rw[List.length_append,List.map_append];exact hown,keeps_grown h.2 h.2.size h.1 hg⟩
theorem NewB.conv {w0 wr:World}{A:Option Addr}{cp:Nat}{bs:List UInt8}{s t e:TypeId}{P:Program}(hs:P.underlying s=some (.slice e))(he:P.underlying e=some (.int .u8))(hd:P.underlying t=some .string)
  (h:NewB w0 wr (.slice A bs.length cp) bs):(convert s t (.slice A bs.length cp)).run P wr= .ok (.string ⟨bs.toArray⟩) wr:=by
 cases bs with
 |nil=>
  rw[run_convert_bytes_string wr s t e A _ cp hs he hd]
  cases A<;>rfl
 |cons b bs=>
  obtain⟨g,c,hg⟩:=ownB_pos h.1 (by simp)
  injection hg with h1 h2 h3
  subst h1 h3;refine run_convert_bytes_back wr s t e ⟨g,0,none⟩ cp (b::bs) hs he hd fun j hj=>?_;refine own_news h.1 j _ ?_;rw[List.getElem?_map,List.getElem?_eq_getElem hj];rfl
theorem Tryz.infoU8:(Tryz.prog.info? 5).map (fun i=>(i.zero,i.size,i.bytes))=some (some (.int .u8 0),1,1):=by kernel_rfl
set_option maxRecDepth 100000 in
set_option maxHeartbeats 2000000 in
theorem utf_text (rs:List Int)(hl:rs.length≤17592186044416)(A:Option Addr)(cp:Nat)(w:World)(K:Nat→Prop)(hK:∀b,K b→b<w.heap.size)(hS:SlAt w K 1 (.slice A rs.length cp) rs.length (rs.map (Value.int .i32))):
  Z 100 #[.slice A rs.length cp] w fun e w'=>e= .returned (.string (textS rs))∧Keeps (· <w.heap.size) w w':=by
 have HS:=hid hS;clear hS;refine calls_hide fun R' hR'=>?_
 go_enter Tryz.func100,Tryz.ntmps100
 go_wp2_with fail
 go_loopw[3,8] (fun ov iv wr=>∃(i:Nat) (A':Option Addr) (cp':Nat),ov= .slice A' (textB (rs.take i)).length cp'∧iv=I (i:Int)∧i≤rs.length∧Hid (NewB w wr (.slice A' (textB (rs.take i)).length cp') (textB (rs.take i)))) (fun _ iv _=>rs.length-(intOf iv).toNat)
 case atStart=>exact⟨0,none,0,rfl,rfl,Nat.zero_le _,hid ⟨⟨rfl,Or.inl ⟨rfl,rfl⟩⟩,Keeps.refl _ _⟩⟩
 case round=>
  obtain⟨i,A',cp',rfl,rfl,hi,HR⟩:=hrel
  by_cases hlt:i<rs.length
  ·have hltI:(i:Int)<(rs.length:Int):=by omega
   obtain⟨r,hr⟩:∃r,rs[i]? =some r:=⟨_,List.getElem?_eq_getElem hlt⟩;obtain⟨b,off,c9,hv,hb,hc⟩:=(HS.out.keep HR.out.2 hK).get i r hr;injection hv with hA h2 h3
   subst hA h3;have hBs:=HR.out.2.size;have hbl:=textB_len (rs.take i);have htl:(rs.take i).length≤rs.length:=by rw[List.length_take];omega
   have h4:=encB_four r;have hes:=enc_size r;have htk:textB (rs.take (i+1))=textB (rs.take i)++encB r:=by
    rw[List.take_add_one,hr];exact textB_snoc _ _
   have HTK:=hid htk;clear htk hr;generalize textB (rs.take i)=acc at*;have hc2:=hc;obtain⟨i0,hi,hz0,hz1,hz2⟩:=info_partsF Tryz.infoU8
   go_wp2_with (at_builtin;refine Lib.wpList_append_own_string _ rfl _ _ 186 9 rfl w.heap.size 5 i0 Tryz.underlying186 Tryz.underlying9 hi hz0 hz1 hz2 (.slice A' acc.length cp') acc.length (acc.map u8v) rfl HR.out.1 (Utf8.encode r) rfl ?_ ?_ ?_ ?_)
   all_goals(try(first|(unfold maxLen;omega)|omega))
   intro v' w6 hown hgr _;obtain⟨A3,c3,rfl⟩:=ownB_form hown;have hN:=HR.out.app hown hgr;have HN:=hid hN;clear hN;clear hown hgr hi hz0 hz1 hz2 HR
   go_wp2_with fail
   go_roundw
   case rel=>exact⟨i+1,A3,c3,by rw[HTK.out,List.length_append],by go_num,by omega,by rw[HTK.out,List.length_append];exact HN⟩
   case measure=>exact msA
  ·obtain rfl:i=rs.length:=by omega
   have hcv:=HR.out.conv Tryz.underlying186 Tryz.underlying5 Tryz.underlying9
   rw[List.take_length]at*;have hts:textS rs=⟨(textB rs).toArray⟩:=rfl;rw[←hts]at hcv;clear hts;generalize textS rs=ts at*
   go_wp2_with fail
   exact hR'.out _ _ ⟨rfl,HR.out.2⟩
def fitL (n:Nat)(acc:List UInt8):List Int→List UInt8
 | []=>acc
 |r::rs=>if(encB r).length+acc.length>n then acc else fitL n (acc++encB r) rs
theorem fitL_cons (n:Nat)(acc:List UInt8)(r:Int)(rs:List Int):fitL n acc (r::rs)=if(encB r).length+acc.length>n then acc else fitL n (acc++encB r) rs:=rfl
def fitS (n:Nat)(rs:List Int):ByteArray:=⟨(fitL n [] rs).toArray⟩
def u8i (bs:List UInt8):List Int:=bs.map fun b=>(b.toNat:Int)
theorem u8i_map (bs:List UInt8):(u8i bs).map (Value.int .u8)=bs.map u8v:=by unfold u8i;rw[List.map_map];rfl
theorem u8i_len (bs:List UInt8):(u8i bs).length=bs.length:=by unfold u8i;simp
theorem ItRow.newB {w wr:World}{s:ByteArray}{pos:Nat}{v:Value}{acc:List UInt8}(h:ItRow w wr s pos 5 (Value.int .u8) v (u8i acc)):NewB w wr v acc:=by
 have:=h.new;unfold NewRow at this;rw[u8i_map,u8i_len]at this;exact this
set_option maxRecDepth 100000 in
set_option maxHeartbeats 2000000 in
theorem utf_fit (s:ByteArray)(hs:s.size≤17592186044416)(n:Nat)(hn:n≤1000)(w:World):
  Z 99 #[.string s,I n] w fun e w'=>e= .returned (.string (fitS n (runesS s)))∧Keeps (· <w.heap.size) w w':=by
 have h0:ItRow w (w.iter s 0) s 0 5 (Value.int .u8) (.slice none 0 0) (u8i []):=⟨World.iter_heap w s 0,⟨rfl,Or.inl ⟨rfl,rfl⟩⟩,(Keeps.refl _ _).alloc (fun b hb=>hb) _,by simp[World.iter]⟩
 have H0:=hid h0;clear h0;refine calls_hide fun R' hR'=>?_
 go_enter Tryz.func99,Tryz.ntmps99
 go_wp2_with fail
 go_loopw[5] (fun ov wr=>∃(pos:Nat) (acc:List UInt8) (A:Option Addr) (cp:Nat),ov= .slice A acc.length cp∧acc.length≤n∧pos≤s.size+4∧wr.heap[w.heap.size]? =some (.stringIter s pos)∧Hid (ItRow w wr s pos 5 (Value.int .u8) (.slice A acc.length cp) (u8i acc))∧Hid (fitL n acc (runesF s s.size pos)=fitL n [] (runesS s))) (fun _ wr=>s.size+4-wr.iterPos w.heap.size)
 case atStart=>exact⟨0,[],none,0,rfl,Nat.zero_le _,Nat.zero_le _,H0.out.it,H0,hid rfl⟩
 case round=>
  obtain⟨pos,acc,A,cp,rfl,hap,hps,hit,HR,HE⟩:=hrel
  by_cases hp:pos<s.size
  ·have hnx:∀ty,(Instr.next (.pointer (some ⟨w.heap.size,0,none⟩)) true ty).run Tryz.prog wr=_:=fun ty=>Lib.run_next_any_at wr w.heap.size s pos ty hit hp
   have zz44:=PLift.up @c295;exact c293
  ·have hnx:∀ty,(Instr.next (.pointer (some ⟨w.heap.size,0,none⟩)) true ty).run Tryz.prog wr=_:=fun ty=>Lib.run_next_end_at wr w.heap.size s pos ty hit hp
   have hex:=HE.out;rw[runesF_end hp]at hex;have hfs:fitS n (runesS s)=⟨acc.toArray⟩:=by unfold fitS;rw[←hex];rfl
   have hcv:=HR.out.newB.conv (P:=Tryz.prog) Tryz.underlying186 Tryz.underlying5 Tryz.underlying9
   have Hex:=hid hex;have Hfs:=hid hfs;clear hex hfs;clear HE
   go_wp2_with fail
   exact hR'.out _ _ ⟨by rw[Hfs.out];rfl,HR.out.keeps⟩
def stopsP:List (List UInt8):=[[97],[97,110],[97,110,100],[97,114,101],[97,115],[97,116],[98,101],[98,121],[102,111,114],[105,110],[105,115],[105,116],[111,102],[111,110],[111,114],[116,104,101],[116,111]]
def stopP (s:ByteArray):Bool:=stopsP.any fun t=>s.toList==t
set_option maxRecDepth 100000 in
set_option maxHeartbeats 2000000 in
theorem token_stop (s:ByteArray)(w:World):Z 101 #[.string s] w fun e w'=>e= .returned (.bool (stopP s))∧w=w':=by
 have hq:stopP s=stopsP.any fun t=>s.toList==t:=rfl;unfold stopsP at hq;simp only[List.any_cons,List.any_nil]at hq;have HQ:=hid hq;clear hq;refine calls_hide fun R' hR'=>?_
 go_enter Tryz.func101,Tryz.ntmps101
 go_wp2_with fail
 all_goals refine hR'.out _ _ ⟨?_,rfl⟩
 all_goals(have hq:=HQ.out;clear HQ hR';first|(exfalso;clear hq;simp_all;done)|(rw[hq];show Ending.returned (.bool _)=Ending.returned (.bool _);congr 2;simp only[*,Bool.true_or,Bool.or_true,Bool.or_false]))
end Go.Proofs.YtogdknnkhkjmcaaGreatDoor
