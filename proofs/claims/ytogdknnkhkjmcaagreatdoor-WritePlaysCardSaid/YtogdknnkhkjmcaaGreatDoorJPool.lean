/- Plain laws: a text's bytes as cells, and a text's number. No program of the dump is named here. -/
import Derived.Test.YtogdknnkhkjmcaaGreatDoorJPlainB
namespace Go.Proofs.YtogdknnkhkjmcaaGreatDoor
open Go.RowKit
set_option linter.all false
def bsL (s:ByteArray):List Int:=s.data.toList.map fun b=>(b.toNat:Int)
theorem bsL_len (s:ByteArray):(bsL s).length=s.size:=by simp[bsL]
theorem bsL_range (s:ByteArray):∀x∈bsL s,0≤x∧x≤255:=by
 intro x hx;simp only[bsL,List.mem_map]at hx;obtain⟨b,_,rfl⟩:=hx;have:=b.toNat_lt
 omega
theorem bsL_get (s:ByteArray)(i:Nat)(h:i<s.size):(bsL s).getD i 0=(s[i].toNat:Int):=by
 have h1:i<(bsL s).length:=by rw[bsL_len];exact h
 rw[List.getD_eq_getElem?_getD,List.getElem?_eq_getElem h1]
 simp[bsL]
 rfl
theorem bsL_inj {s t:ByteArray}(h:bsL s=bsL t):s=t:=by
 have:s.data.toList=t.data.toList:=by
  unfold bsL at h;refine List.map_inj_right ?_|>.1 h
  intro x y e;have e:(x.toNat:Int)=y.toNat:=e;exact UInt8.toNat_inj.1 (by omega)
 have h2:s.data=t.data:=Array.toList_inj.1 this
 cases s;cases t;simp_all
def pc (l:List Int)(i j:Nat):Int:=
 (if 4*j<i then l.getD (4*j) 0 else 0)+256*(if 4*j+1<i then l.getD (4*j+1) 0 else 0)+
  65536*(if 4*j+2<i then l.getD (4*j+2) 0 else 0)+16777216*(if 4*j+3<i then l.getD (4*j+3) 0 else 0)
def pcs (l:List Int)(n i:Nat):List Int:=(List.range n).map (pc l i)
def packC (l:List Int):List Int:=pcs l ((l.length+3)/4) l.length
theorem pcs_len (l:List Int)(n i:Nat):(pcs l n i).length=n:=by simp[pcs]
theorem packC_len (l:List Int):(packC l).length=(l.length+3)/4:=pcs_len _ _ _
theorem pcs_get (l:List Int)(n i j:Nat)(h:j<n):(pcs l n i)[j]? =some (pc l i j):=by
 simp[pcs,h]
theorem pcs_zero (l:List Int)(n:Nat):pcs l n 0=List.replicate n 0:=by
 apply List.ext_getElem?
 intro j
 by_cases h:j<n
 ·rw[pcs_get l n 0 j h,List.getElem?_replicate,if_pos h];simp[pc]
 ·rw[List.getElem?_eq_none (by rw[pcs_len];omega),List.getElem?_replicate,if_neg h]
def Byte (x:Int):Prop:=0≤x∧x≤255
theorem getD_byte {l:List Int}(h:∀x∈l,Byte x)(k:Nat):Byte (l.getD k 0):=by
 rw[List.getD_eq_getElem?_getD]
 cases e:l[k]? with
 |none=>exact⟨by simp,by simp⟩
 |some x=>exact h x (List.mem_of_getElem? e)
theorem pc_range {l:List Int}(h:∀x∈l,Byte x)(i j:Nat):0≤pc l i j∧pc l i j≤4294967295:=by
 have h0:=getD_byte h (4*j);have h1:=getD_byte h (4*j+1);have h2:=getD_byte h (4*j+2);have h3:=getD_byte h (4*j+3);unfold Byte at h0 h1 h2 h3;unfold pc
 split<;>split<;>split<;>split<;>omega
theorem packC_range {l:List Int}(h:∀x∈l,Byte x):∀x∈packC l,0≤x∧x≤4294967295:=by
 intro x hx;simp only[packC,pcs,List.mem_map]at hx;obtain⟨j,_,rfl⟩:=hx;exact pc_range h _ _
def pw (r:Nat):Int:=if r=0 then 1 else if r=1 then 256 else if r=2 then 65536 else 16777216
theorem pc_low {l:List Int}(h:∀x∈l,Byte x)(i:Nat):0≤pc l i (i/4)∧pc l i (i/4)<pw (i%4):=by
 have h0:=getD_byte h (4*(i/4));have h1:=getD_byte h (4*(i/4)+1);have h2:=getD_byte h (4*(i/4)+2);unfold Byte at h0 h1 h2;generalize hq:i/4=q at*;generalize hr:i%4=r at*;have hi:i=4*q+r:=by omega
 have hr4:r<4:=by omega
 subst hi;unfold pc pw
 rcases(by omega:r=0∨r=1∨r=2∨r=3)with rfl|rfl|rfl|rfl
 ·rw[if_neg (by omega),if_neg (by omega),if_neg (by omega),if_neg (by omega)];simp
 ·rw[if_pos (by omega),if_neg (by omega),if_neg (by omega),if_neg (by omega)];exact⟨by omega,by rw[if_neg (by decide),if_pos rfl];omega⟩
 ·rw[if_pos (by omega),if_pos (by omega),if_neg (by omega),if_neg (by omega)];exact⟨by omega,by rw[if_neg (by decide),if_neg (by decide),if_pos rfl];omega⟩
 ·rw[if_pos (by omega),if_pos (by omega),if_pos (by omega),if_neg (by omega)];exact⟨by omega,by rw[if_neg (by decide),if_neg (by decide),if_neg (by decide)];omega⟩
theorem pc_next (l:List Int)(i j:Nat):pc l (i+1) j=if j=i/4 then pc l i j+l.getD i 0*pw (i%4)else pc l i j:=by
 generalize hq:i/4=q at*;generalize hr:i%4=r at*;have hi:i=4*q+r:=by omega
 have hr4:r<4:=by omega
 subst hi;unfold pc pw
 by_cases hj:j=q
 ·subst hj;rw[if_pos rfl]
  rcases(by omega:r=0∨r=1∨r=2∨r=3)with rfl|rfl|rfl|rfl
  ·rw[if_pos (by omega),if_neg (by omega),if_neg (by omega),if_neg (by omega),if_neg (by omega),if_neg (by omega),if_neg (by omega),if_neg (by omega)];simp
  ·rw[if_pos (by omega),if_pos (by omega),if_neg (by omega),if_neg (by omega),if_pos (by omega),if_neg (by omega),if_neg (by omega),if_neg (by omega)];simp;omega
  ·rw[if_pos (by omega),if_pos (by omega),if_pos (by omega),if_neg (by omega),if_pos (by omega),if_pos (by omega),if_neg (by omega),if_neg (by omega)];simp;omega
  ·rw[if_pos (by omega),if_pos (by omega),if_pos (by omega),if_pos (by omega),if_pos (by omega),if_pos (by omega),if_pos (by omega),if_neg (by omega)];simp;omega
 ·rw[if_neg hj]
  rcases Nat.lt_or_gt_of_ne hj with h|h
  ·rw[if_pos (by omega),if_pos (by omega),if_pos (by omega),if_pos (by omega),if_pos (by omega),if_pos (by omega),if_pos (by omega),if_pos (by omega)]
  ·rw[if_neg (by omega),if_neg (by omega),if_neg (by omega),if_neg (by omega),if_neg (by omega),if_neg (by omega),if_neg (by omega),if_neg (by omega)]
theorem pcs_next (l:List Int)(n i:Nat):(pcs l n i).set (i/4) (pc l i (i/4)+l.getD i 0*pw (i%4))=pcs l n (i+1):=by
 apply List.ext_getElem?
 intro j
 by_cases h:j<n
 ·rw[pcs_get l n (i+1) j h,pc_next]
  by_cases hj:j=i/4
  ·subst hj;rw[if_pos rfl,List.getElem?_set_self (by rw[pcs_len];exact h)]
  ·rw[if_neg hj,List.getElem?_set_ne (fun e=>hj e.symm),pcs_get l n i j h]
 ·rw[List.getElem?_eq_none (by rw[List.length_set,pcs_len];omega),List.getElem?_eq_none (by rw[pcs_len];omega)]
theorem packC_inj {l l':List Int}(h:∀x∈l,Byte x)(h':∀x∈l',Byte x)(hl:l.length=l'.length)(e:packC l=packC l'):l=l':=by
 apply List.ext_getElem hl
 intro k h1 h2;have ej:=congrArg (fun L=>L[k/4]?) e;simp only[packC]at ej;rw[pcs_get _ _ _ _ (by omega),pcs_get _ _ _ _ (by omega),←hl]at ej
 injection ej with ej
 have ta:l[k]=l.getD k 0:=by rw[List.getD_eq_getElem?_getD,List.getElem?_eq_getElem h1];rfl
 have tb:l'[k]=l'.getD k 0:=by rw[List.getD_eq_getElem?_getD,List.getElem?_eq_getElem h2];rfl
 rw[ta,tb];have key:∀(n q:Nat),pc l n q=pc l' n q→∀t,t<4→4*q+t<n→l.getD (4*q+t) 0=l'.getD (4*q+t) 0:=by
  intro n q e t ht hn;have ra:∀(m:List Int) (hm:∀x∈m,Byte x) (u:Nat),0≤(if u<n then m.getD u 0 else 0)∧(if u<n then m.getD u 0 else 0)≤255:=by
   intro m hm u;have:=getD_byte hm u;unfold Byte at this
   split<;>omega
  have a0:=ra l h (4*q);have a1:=ra l h (4*q+1);have a2:=ra l h (4*q+2);have a3:=ra l h (4*q+3);have b0:=ra l' h' (4*q);have b1:=ra l' h' (4*q+1);have b2:=ra l' h' (4*q+2);have b3:=ra l' h' (4*q+3);have hx:(if 4*q+t<n then l.getD (4*q+t) 0 else 0)=(if 4*q+t<n then l'.getD (4*q+t) 0 else 0):=by
   unfold pc at e
   rcases(by omega:t=0∨t=1∨t=2∨t=3)with rfl|rfl|rfl|rfl
   ·rw[Nat.add_zero]at hn ⊢;generalize (if 4*q<n then l.getD (4*q) 0 else 0)=x0 at*
    generalize (if 4*q<n then l'.getD (4*q) 0 else 0)=y0 at*
    omega
   all_goals
    generalize (if 4*q<n then l.getD (4*q) 0 else 0)=x0 at*
    generalize (if 4*q<n then l'.getD (4*q) 0 else 0)=y0 at*
    generalize (if 4*q+1<n then l.getD (4*q+1) 0 else 0)=x1 at*
    generalize (if 4*q+1<n then l'.getD (4*q+1) 0 else 0)=y1 at*
    generalize (if 4*q+2<n then l.getD (4*q+2) 0 else 0)=x2 at*
    generalize (if 4*q+2<n then l'.getD (4*q+2) 0 else 0)=y2 at*
    generalize (if 4*q+3<n then l.getD (4*q+3) 0 else 0)=x3 at*
    generalize (if 4*q+3<n then l'.getD (4*q+3) 0 else 0)=y3 at*
    omega
  rw[if_pos hn,if_pos hn]at hx;exact hx
 have:=key l.length (k/4) ej (k%4) (by omega) (by omega)
 rw[show 4*(k/4)+k%4=k by omega]at this
 exact this
def hashStep (h b:Int):Int:=((Nat.xor h.toNat b.toNat:Nat):Int)*16777619%4294967296
def hashL (l:List Int):Int:=l.foldl hashStep 2166136261
theorem hashStep_range (h b:Int):0≤hashStep h b∧hashStep h b≤4294967295:=by unfold hashStep;omega
theorem hash_take (l:List Int)(i:Nat)(h:i<l.length):hashL (l.take (i+1))=hashStep (hashL (l.take i)) (l.getD i 0):=by
 unfold hashL;rw[List.take_succ_eq_append_getElem h,List.foldl_append]
 simp[List.getD_eq_getElem?_getD,h]
theorem hash_range (l:List Int):0≤hashL l∧hashL l≤4294967295:=by
 rcases List.eq_nil_or_concat l with rfl|⟨l',x,rfl⟩
 ·decide
 ·unfold hashL;rw[List.concat_eq_append,List.foldl_append];exact hashStep_range _ _
theorem pw_cases (r:Nat)(h:r<4):pw r=2^(8*r):=by
 rcases(by omega:r=0∨r=1∨r=2∨r=3)with rfl|rfl|rfl|rfl<;>rfl
theorem or_add (x y:Int)(r:Nat)(hr:r<4)(hx0:0≤x)(hx:x<pw r)(hy0:0≤y)(hy:y≤255):((BitVec.ofInt 32 x|||BitVec.ofInt 32 (y*pw r)).toNat:Int)=x+y*pw r:=by
 obtain⟨x,rfl⟩:=Int.eq_ofNat_of_zero_le hx0;obtain⟨y,rfl⟩:=Int.eq_ofNat_of_zero_le hy0;have hp:pw r=((2^(8*r):Nat):Int):=by rw[pw_cases r hr];simp
 have h24:2^(8*r)≤2^24:=Nat.pow_le_pow_right (by decide) (by omega)
 rw[hp]at hx ⊢;have hyr:y*2^(8*r)≤255*2^24:=Nat.mul_le_mul (by omega) h24
 have hx':x<2^(8*r):=by omega
 rw[BitVec.toNat_or];have e1:(BitVec.ofInt 32 (x:Int)).toNat=x:=by
  rw[BitVec.toNat_ofInt];omega
 have e2:(BitVec.ofInt 32 ((y:Int)*((2^(8*r):Nat):Int))).toNat=y*2^(8*r):=by
  rw[BitVec.toNat_ofInt,←Int.natCast_mul];generalize y*2^(8*r)=z at*
  omega
 rw[e1,e2,Nat.or_comm,←Nat.shiftLeft_eq,←Nat.shiftLeft_add_eq_or_of_lt hx' y,Nat.shiftLeft_eq,Nat.add_comm]
 omega
theorem bits_or (x y:Int)(r:Nat)(hr:r<4)(hx0:0≤x)(hx:x<pw r)(hy0:0≤y)(hy:y≤255):
  bits .or .u32 x (y*pw r)=x+y*pw r:=by
 have h:=or_add x y r hr hx0 hx hy0 hy;have hle:0≤x+y*pw r∧x+y*pw r≤4294967295:=by
  rcases(by omega:r=0∨r=1∨r=2∨r=3)with rfl|rfl|rfl|rfl<;>(unfold pw at hx ⊢;simp at hx ⊢;omega)
 show IntKind.u32.wrap ((BitVec.ofInt 32 x|||BitVec.ofInt 32 (y*pw r)).toNat:Int)=_
 rw[h,IntWalk.u32_in _ hle]
theorem run_shl (P:Program)(x:Int)(k:Nat)(hx:0≤x∧x≤255)(w:World):
  (Op.shift .shl .u32 (IntKind.u32.wrap x) .i64 (IntKind.i64.wrap (8*(k:Int).tmod 4))).run P w= .ok (J (x*pw (k%4))) w:=by
 have hm:(k:Int).tmod 4=((k%4:Nat):Int):=by rw[Int.tmod_eq_emod_of_nonneg (by omega)];omega
 have hr:k%4<4:=by omega
 rw[hm,IntWalk.u32_in x (by omega),IntWalk.i64_in _ (by omega)]
 generalize k%4=r at*;have hle:0≤x*pw r∧x*pw r≤4294967295:=by
  rcases(by omega:r=0∨r=1∨r=2∨r=3)with rfl|rfl|rfl|rfl<;>(unfold pw;simp;omega)
 unfold Op.shift;rw[if_neg (by omega)]
 have hmin:min (8*(r:Int)).toNat IntKind.u32.bits=8*r:=by
  have:IntKind.u32.bits=32:=rfl
  omega
 rw[hmin];show Sem.run P (pure (J (IntKind.u32.wrap (x*2^(8*r))))) w=_;rw[←pw_cases r hr,IntWalk.u32_in _ hle];rfl
set_option maxRecDepth 100000 in
set_option maxHeartbeats 1000000 in
theorem pack_cells (t:ByteArray)(ht:t.size≤140737488351232)(w:World):
  Calls Tryz.prog 77 #[.string t] w fun e w'=>e= .returned (.slice (some ⟨w.heap.size,0,none⟩) ((t.size+3)/4:Nat) ((t.size+3)/4:Nat))∧
   Blk w' w.heap.size ((packC (bsL t)).map (Value.int .u32))∧Keeps (· <w.heap.size) w w':=by
 have hmk:=fun w=>run_make_row' (P:=Tryz.prog) 47 32 (J 0) 4 Tryz.underlying47 Tryz.infoU rfl .i64 .i64 ((t.size+3)/4) (by omega) (by omega) w
 rw[show(((t.size+3)/4:Nat):Int)=((t.size:Int)+3)/4 by omega]at hmk
 refine calls_hide fun R' hR'=>?_
 go_enter Tryz.func77,Tryz.ntmps77
 go_wp2_with fail
 have hb0:=made_blk w (J 0) ((t.size+3)/4) 32;have hk0:Keeps (· <w.heap.size) w (w.alloc (.cells (madeCells #[J 0] ((t.size+3)/4)) 32)):=(Keeps.refl _ _).alloc (fun b hb=>hb) _;generalize hw0:w.alloc (.cells (madeCells #[J 0] ((t.size+3)/4)) 32)=w0 at*;generalize hb:w.heap.size=b at*;have Hb0:=hid hb0;have Hk0:=hid hk0;have Hw0:=hid hw0;have Hb:=hid hb;clear hb0 hk0 hw0 hb
 clear hmk
 go_loopw[12] (fun i wr=>∃k:Nat,i=I k∧k≤t.size∧Blk wr b ((pcs (bsL t) ((t.size+3)/4) k).map (Value.int .u32))∧Keeps (· <b) w wr) (fun i _=>t.size-(intOf i).toNat)
 case atStart=>exact⟨0,rfl,Nat.zero_le _,by rw[pcs_zero,List.map_replicate];exact Hb0.out,Hk0.out⟩
 case round=>
  obtain⟨k,rfl,hk,hB,hK⟩:=hrel
  by_cases hlt:k<t.size
  ·have hq:k/4<(t.size+3)/4:=by omega
   have cx:wr.cell? ⟨b,k/4,none⟩=some (J (pc (bsL t) k (k/4))):=by
    rw[hB.cell,List.getElem?_map,pcs_get _ _ _ _ hq];rfl
   have fx:=hB.free (k/4);have i1:(k:Int)/4<((t.size:Int)+3)/4:=by omega
   have i2:0≤(k:Int)/4:=by omega
   have i3:(k:Int)<(t.size:Int):=by omega
   have HB:=hid hB;have HK:=hid hK;clear hB hK
   go_wp2_with fail
   have hw1:IntKind.i64.wrap ((k:Int)/4)=(k:Int)/4:=IntWalk.i64_in _ (by omega)
   have hw2:((k:Int)/4).toNat=k/4:=by omega
   have hby:Byte (t[k].toNat:Int):=by have:=t[k].toNat_lt;unfold Byte;omega
   have hlo:=pc_low (fun x hx=>bsL_range t x hx) k;have hsh:=fun W=>run_shl Tryz.prog (t[k].toNat:Int) k hby W;have hor:=bits_or (pc (bsL t) k (k/4)) (t[k].toNat:Int) (k%4) (by omega) hlo.1 hlo.2 hby.1 hby.2
   have hnx:=pcs_next (bsL t) ((t.size+3)/4) k;rw[bsL_get t k hlt]at hnx;have Hnx:=hid hnx;have Hby:=hid hby;have Hlo:=hid hlo;have Hor:=hid hor;clear hnx hby hlo hor
   go_still_tail 15,(by kernel_rfl)
   change wpList _ _ _ _ _ wr.drew;clear hsh hw1
   go_wp2_with fail
   go_roundw
   case rel=>
    refine⟨k+1,by go_num,by omega,?_,(HK.out.drew).setCell (by simp) _⟩
    rw[←Hnx.out,List.map_set,Hor.out];exact(HB.out.drew).set (k/4) _
   case measure=>simp[intOf];omega
  ·have hkn:k=t.size:=by omega
   subst hkn;have HB:=hid hB;have HK:=hid hK;clear hB hK
   go_wp2_with fail
   refine hR'.out _ _ ⟨rfl,?_,HK.out⟩;have:=HB.out;unfold packC;rw[bsL_len];exact this
theorem bits_xor (x y:Int)(hx:0≤x∧x≤4294967295)(hy:0≤y∧y≤255):
  bits .xor .u32 x y=((Nat.xor x.toNat y.toNat:Nat):Int):=by
 obtain⟨x,rfl⟩:=Int.eq_ofNat_of_zero_le hx.1;obtain⟨y,rfl⟩:=Int.eq_ofNat_of_zero_le hy.1;have e:(BitVec.ofInt 32 (x:Int)^^^BitVec.ofInt 32 (y:Int)).toNat=Nat.xor x y:=by
  rw[BitVec.toNat_xor,BitVec.toNat_ofInt,BitVec.toNat_ofInt];have e1:((x:Int)%((2^32:Nat):Int)).toNat=x:=by omega
  have e2:((y:Int)%((2^32:Nat):Int)).toNat=y:=by omega
  rw[e1,e2];rfl
 have hle:Nat.xor x y<2^32:=Nat.xor_lt_two_pow (by omega) (by omega)
 show IntKind.u32.wrap ((BitVec.ofInt 32 (x:Int)^^^BitVec.ofInt 32 (y:Int)).toNat:Int)=_;rw[e,IntWalk.u32_in _ (by omega)];rfl
set_option maxHeartbeats 1000000 in
theorem pack_hash (t:ByteArray)(ht:t.size≤140737488351232)(w:World):
  Calls Tryz.prog 102 #[.string t] w fun e w'=>e= .returned (J (hashL (bsL t)))∧w=w':=by
 refine calls_hide fun R' hR'=>?_
 go_enter Tryz.func102,Tryz.ntmps102
 go_wp2_with fail
 go_loop [3,7] (fun h i=>∃k:Nat,i=I k∧k≤t.size∧h=J (hashL ((bsL t).take k))) (fun _ i=>t.size-(intOf i).toNat)
 case atStart=>exact⟨0,rfl,Nat.zero_le _,rfl⟩
 case round=>
  obtain⟨k,rfl,hk,rfl⟩:=hrel;have hr:=hash_range ((bsL t).take k)
  by_cases hlt:k<t.size
  ·have hby:0≤(t[k].toNat:Int)∧(t[k].toNat:Int)≤255:=by have:=t[k].toNat_lt;omega
   have hx:=bits_xor (hashL ((bsL t).take k)) (t[k].toNat:Int) hr hby;have hst:hashL ((bsL t).take (k+1))=hashStep (hashL ((bsL t).take k)) (t[k].toNat:Int):=by
    rw[hash_take _ _ (by rw[bsL_len];exact hlt),bsL_get t k hlt]
   generalize hashL ((bsL t).take k)=h at*;obtain⟨h0,h1⟩:=hr;obtain⟨g0,g1⟩:=hby;have i3:(k:Int)<(t.size:Int):=by omega
   have Hst:=hid hst;have Hx:=hid hx;clear hst hx
   go_wp2_with fail
   go_round
   case rel=>
    refine⟨k+1,by go_num,by omega,?_⟩
    rw[Hst.out,Hx.out];rfl
   case measure=>simp[intOf];omega
  ·have hkn:k=t.size:=by omega
   subst hkn
   go_wp2_with fail
   refine hR'.out _ _ ⟨?_,rfl⟩;rw[List.take_of_length_le (by rw[bsL_len];omega)]
set_option maxRecDepth 100000 in
set_option maxHeartbeats 1000000 in
theorem pack_key (f:Int)(t:ByteArray)(hf:0≤f∧f≤255)(ht:t.size≤140737488351232)(w:World):
  Calls Tryz.prog 74 #[.int .u8 f,.string t] w fun e w'=>∃s,e= .returned (.string s)∧bsL s=f::bsL t∧Keeps (· <w.heap.size) w w':=by
 have hcv:=run_convert_bytes_back (P:=Tryz.prog) (w.alloc (.cells #[.int .u8 f] 5)) 186 9 5 ⟨w.heap.size,0,none⟩ 1 [UInt8.ofNat f.toNat] Tryz.underlying186 Tryz.underlying5 Tryz.underlying9 (by
  intro j hj;have:j=0:=by simpa using hj
  subst this;have e:=(Blk.new w [.int .u8 f] 5).cell 0;simp only[List.getElem?_cons_zero]at e;have:((UInt8.ofNat f.toNat).toNat:Int)=f:=by
   rw[UInt8.toNat_ofNat'];omega
  show _=some (Value.int .u8 ((UInt8.ofNat f.toNat).toNat:Int));rw[this];exact e)
 simp only[List.length_singleton]at hcv;refine calls_hide fun R' hR'=>?_
 go_enter Tryz.func74,Tryz.ntmps74
 go_wp2_with fail
 refine hR'.out _ _ ⟨_,rfl,?_,(Keeps.refl _ _).alloc (fun b hb=>hb) _⟩;have e1:((UInt8.ofNat f.toNat).toNat:Int)=f:=by rw[UInt8.toNat_ofNat'];omega
 simp only[bsL,ByteArray.data_append,Array.toList_append,List.map_append,List.map_cons,List.map_nil,e1]
 rfl
structure V6 where
 a0:Int
 a1:Int
 a2:Int
 a3:Int
 a4:Int
 a5:Int
def V6.val (v:V6):Value:= .agg #[.int .i64 v.a0,.int .i64 v.a1,.int .i64 v.a2,.int .i64 v.a3,.int .i64 v.a4,.int .i64 v.a5]
structure PlanM where
 base:V6
 size:V6
 cells:Int
 slots:Int
 live:Int
def PlanM.val (p:PlanM):Value:= .agg #[.int .i64 p.base.a0,.int .i64 p.base.a1,.int .i64 p.base.a2,.int .i64 p.base.a3,.int .i64 p.base.a4,.int .i64 p.base.a5,
 .int .i64 p.size.a0,.int .i64 p.size.a1,.int .i64 p.size.a2,.int .i64 p.size.a3,.int .i64 p.size.a4,.int .i64 p.size.a5,.int .i64 p.cells,.int .i64 p.slots,.int .i64 p.live]
def PlanM.flat (p:PlanM):List Value:=[.int .i64 p.base.a0,.int .i64 p.base.a1,.int .i64 p.base.a2,.int .i64 p.base.a3,.int .i64 p.base.a4,.int .i64 p.base.a5,
 .int .i64 p.size.a0,.int .i64 p.size.a1,.int .i64 p.size.a2,.int .i64 p.size.a3,.int .i64 p.size.a4,.int .i64 p.size.a5,.int .i64 p.cells,.int .i64 p.slots,.int .i64 p.live]
set_option maxHeartbeats 400000 in
theorem between_yes (n lo hi:Int)(w:World)(h:lo≤n∧n≤hi):
  Calls Tryz.prog 68 #[I n,I lo,I hi] w fun e w'=>e= .returned (.bool true)∧w'=w:=by
 obtain⟨h1,h2⟩:=h;refine calls_hide fun R' hR'=>?_
 go_enter Tryz.func68,Tryz.ntmps68
 exact c90
set_option maxRecDepth 100000 in
set_option maxHeartbeats 1000000 in
theorem take_book (p:PlanM)(u:V6)(n:Int)(w:World)(h1:1≤n)(h0:0≤u.a4)(h2:u.a4+n≤p.size.a4)(h3:p.size.a4≤65536)(hb:0≤p.base.a4∧p.base.a4≤65536):
  Calls Tryz.prog 43 #[p.val,u.val,I 4,I n] w fun e w'=>
   e= .returned (.tuple #[I (p.base.a4+u.a4),V6.val { u with a4:=u.a4+n },I 0])∧Keeps (· <w.heap.size) w w':=by
 have zz162:=@c764;exact c763
set_option maxRecDepth 100000 in
set_option maxHeartbeats 1000000 in
theorem take_full (p:PlanM)(u:V6)(n:Int)(w:World)(h1:1≤n)(hn:n≤1099511627776)(h0:0≤u.a4)(hu:u.a4≤p.size.a4)(h2:p.size.a4<u.a4+n)(h3:p.size.a4≤65536):
  Calls Tryz.prog 43 #[p.val,u.val,I 4,I n] w fun e w'=>
   e= .returned (.tuple #[I 0,V6.val ⟨0,0,0,0,0,0⟩,I 3])∧Keeps (· <w.heap.size) w w':=by
 have zz49:=@c309;exact c308
end Go.Proofs.YtogdknnkhkjmcaaGreatDoor
