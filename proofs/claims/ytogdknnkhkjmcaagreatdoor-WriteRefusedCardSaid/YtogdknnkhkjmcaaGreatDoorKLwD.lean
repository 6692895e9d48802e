/- Lemmas on the programs that the statement reaches. -/
import Derived.Test.YtogdknnkhkjmcaaGreatDoorKFoldB
import Derived.Test.YtogdknnkhkjmcaaGreatDoorKLay
namespace Go.Proofs.YtogdknnkhkjmcaaGreatDoor
open Go.RowKit
set_option linter.all false
theorem pw_cases (r:Nat)(h:r<4):pw r=2^(8*r):=by
 rcases(by omega:r=0∨r=1∨r=2∨r=3)with rfl|rfl|rfl|rfl<;>rfl
theorem or_add (x y:Int)(r:Nat)(hr:r<4)(hx0:0≤x)(hx:x<pw r)(hy0:0≤y)(hy:y≤255):((BitVec.ofInt 32 x|||BitVec.ofInt 32 (y*pw r)).toNat:Int)=x+y*pw r:=by
 obtain⟨x,rfl⟩:=Int.eq_ofNat_of_zero_le hx0;obtain⟨y,rfl⟩:=Int.eq_ofNat_of_zero_le hy0;have hp:pw r=((2^(8*r):Nat):Int):=by rw[pw_cases r hr];simp
 have h24:2^(8*r)≤2^24:=Nat.pow_le_pow_right (by decide) (by omega)
 rw[hp]at hx ⊢;have hyr:y*2^(8*r)≤255*2^24:=Nat.mul_le_mul (by omega) h24
 have hx':x<2^(8*r):=by omega
 rw[BitVec.toNat_or];have e1:(BitVec.ofInt 32 (x:Int)).toNat=x:=by
  rw[BitVec.toNat_ofInt];omega
 have e2:(BitVec.ofInt 32 ((y:Int)*((2^(8*r):Nat):Int))).toNat=y*2^(8*r):=by
  rw[BitVec.toNat_ofInt,←Int.natCast_mul];generalize y*2^(8*r)=z at*
  omega
 rw[e1,e2,Nat.or_comm,←Nat.shiftLeft_eq,←Nat.shiftLeft_add_eq_or_of_lt hx' y,Nat.shiftLeft_eq,Nat.add_comm]
 omega
theorem bits_or (x y:Int)(r:Nat)(hr:r<4)(hx0:0≤x)(hx:x<pw r)(hy0:0≤y)(hy:y≤255):
  bits .or .u32 x (y*pw r)=x+y*pw r:=by
 have h:=or_add x y r hr hx0 hx hy0 hy;have hle:0≤x+y*pw r∧x+y*pw r≤4294967295:=by
  rcases(by omega:r=0∨r=1∨r=2∨r=3)with rfl|rfl|rfl|rfl<;>(unfold pw at hx ⊢;simp at hx ⊢;omega)
 show IntKind.u32.wrap ((BitVec.ofInt 32 x|||BitVec.ofInt 32 (y*pw r)).toNat:Int)=_
 rw[h,IntWalk.u32_in _ hle]
theorem run_shl (P:Program)(x:Int)(k:Nat)(hx:0≤x∧x≤255)(w:World):
  (Op.shift .shl .u32 (IntKind.u32.wrap x) .i64 (IntKind.i64.wrap (8*(k:Int).tmod 4))).run P w= .ok (J (x*pw (k%4))) w:=by
 have hm:(k:Int).tmod 4=((k%4:Nat):Int):=by rw[Int.tmod_eq_emod_of_nonneg (by omega)];omega
 have hr:k%4<4:=by omega
 rw[hm,IntWalk.u32_in x (by omega),IntWalk.i64_in _ (by omega)]
 generalize k%4=r at*;have hle:0≤x*pw r∧x*pw r≤4294967295:=by
  rcases(by omega:r=0∨r=1∨r=2∨r=3)with rfl|rfl|rfl|rfl<;>(unfold pw;simp;omega)
 unfold Op.shift;rw[if_neg (by omega)]
 have hmin:min (8*(r:Int)).toNat IntKind.u32.bits=8*r:=by
  have:IntKind.u32.bits=32:=rfl
  omega
 rw[hmin];show Sem.run P (pure (J (IntKind.u32.wrap (x*2^(8*r))))) w=_;rw[←pw_cases r hr,IntWalk.u32_in _ hle];rfl
set_option maxRecDepth 100000 in
set_option maxHeartbeats 1000000 in
theorem pack_cells (t:ByteArray)(ht:t.size≤140737488351232)(w:World):
  Z 77 #[.string t] w fun e w'=>e= .returned (.slice (some ⟨w.heap.size,0,none⟩) ((t.size+3)/4:Nat) ((t.size+3)/4:Nat))∧
   Blk w' w.heap.size ((packC (bsL t)).map (Value.int .u32))∧Keeps (· <w.heap.size) w w':=by
 have hmk:=fun w=>run_make_row' (P:=Tryz.prog) 47 32 (J 0) 4 Tryz.underlying47 Tryz.infoU rfl .i64 .i64 ((t.size+3)/4) (by omega) (by omega) w
 rw[show(((t.size+3)/4:Nat):Int)=((t.size:Int)+3)/4 by omega]at hmk
 refine calls_hide fun R' hR'=>?_
 go_enter Tryz.func77,Tryz.ntmps77
 go_wp2_with fail
 have hb0:=made_blk w (J 0) ((t.size+3)/4) 32;have hk0:Keeps (· <w.heap.size) w (w.alloc (.cells (madeCells #[J 0] ((t.size+3)/4)) 32)):=(Keeps.refl _ _).alloc (fun b hb=>hb) _;generalize hw0:w.alloc (.cells (madeCells #[J 0] ((t.size+3)/4)) 32)=w0 at*;generalize hb:w.heap.size=b at*;have Hb0:=hid hb0;have Hk0:=hid hk0;have Hw0:=hid hw0;have Hb:=hid hb;clear hb0 hk0 hw0 hb
 clear hmk
 go_loopw[12] (fun i wr=>∃k:Nat,i=I k∧k≤t.size∧Blk wr b ((pcs (bsL t) ((t.size+3)/4) k).map (Value.int .u32))∧Keeps (· <b) w wr) (fun i _=>t.size-(intOf i).toNat)
 case atStart=>exact⟨0,rfl,Nat.zero_le _,by rw[pcs_zero,List.map_replicate];exact Hb0.out,Hk0.out⟩
 case round=>
  obtain⟨k,rfl,hk,hB,hK⟩:=hrel
  by_cases hlt:k<t.size
  ·have hq:k/4<(t.size+3)/4:=by omega
   have cx:wr.cell? ⟨b,k/4,none⟩=some (J (pc (bsL t) k (k/4))):=by
    rw[hB.cell,List.getElem?_map,pcs_get _ _ _ _ hq];rfl
   have fx:=hB.free (k/4);have i1:(k:Int)/4<((t.size:Int)+3)/4:=by omega
   have i2:0≤(k:Int)/4:=by omega
   have i3:(k:Int)<(t.size:Int):=by omega
   have HB:=hid hB;have HK:=hid hK;clear hB hK
   go_wp2_with fail
   have hw1:IntKind.i64.wrap ((k:Int)/4)=(k:Int)/4:=IntWalk.i64_in _ (by omega)
   have hw2:((k:Int)/4).toNat=k/4:=by omega
   have hby:Byte (t[k].toNat:Int):=by have:=t[k].toNat_lt;unfold Byte;omega
   have hlo:=pc_low (fun x hx=>bsL_range t x hx) k;have hsh:=fun W=>run_shl Tryz.prog (t[k].toNat:Int) k hby W;have hor:=bits_or (pc (bsL t) k (k/4)) (t[k].toNat:Int) (k%4) (by omega) hlo.1 hlo.2 hby.1 hby.2
   have hnx:=pcs_next (bsL t) ((t.size+3)/4) k;rw[bsL_get t k hlt]at hnx;have Hnx:=hid hnx;have Hby:=hid hby;have Hlo:=hid hlo;have Hor:=hid hor;clear hnx hby hlo hor
   go_still_tail 15,(by kernel_rfl)
   change wpList _ _ _ _ _ wr.drew;clear hsh hw1
   go_wp2_with fail
   go_roundw
   case rel=>
    refine⟨k+1,by go_num,by omega,?_,(HK.out.drew).setCell (by simp) _⟩
    rw[←Hnx.out,List.map_set,Hor.out];exact(HB.out.drew).set (k/4) _
   case measure=>simp[intOf];omega
  ·have hkn:k=t.size:=by omega
   subst hkn;have HB:=hid hB;have HK:=hid hK;clear hB hK
   go_wp2_with fail
   refine hR'.out _ _ ⟨rfl,?_,HK.out⟩;have:=HB.out;unfold packC;rw[bsL_len];exact this
theorem bits_xor (x y:Int)(hx:0≤x∧x≤4294967295)(hy:0≤y∧y≤255):
  bits .xor .u32 x y=((Nat.xor x.toNat y.toNat:Nat):Int):=by
 obtain⟨x,rfl⟩:=Int.eq_ofNat_of_zero_le hx.1;obtain⟨y,rfl⟩:=Int.eq_ofNat_of_zero_le hy.1;have e:(BitVec.ofInt 32 (x:Int)^^^BitVec.ofInt 32 (y:Int)).toNat=Nat.xor x y:=by
  rw[BitVec.toNat_xor,BitVec.toNat_ofInt,BitVec.toNat_ofInt];have e1:((x:Int)%((2^32:Nat):Int)).toNat=x:=by omega
  have e2:((y:Int)%((2^32:Nat):Int)).toNat=y:=by omega
  rw[e1,e2];rfl
 have hle:Nat.xor x y<2^32:=Nat.xor_lt_two_pow (by omega) (by omega)
 show IntKind.u32.wrap ((BitVec.ofInt 32 (x:Int)^^^BitVec.ofInt 32 (y:Int)).toNat:Int)=_;rw[e,IntWalk.u32_in _ (by omega)];rfl
set_option maxHeartbeats 1000000 in
theorem pack_hash (t:ByteArray)(ht:t.size≤140737488351232)(w:World):
  Z 102 #[.string t] w fun e w'=>e= .returned (J (hashL (bsL t)))∧w=w':=by
 refine calls_hide fun R' hR'=>?_
 go_enter Tryz.func102,Tryz.ntmps102
 go_wp2_with fail
 go_loop [3,7] (fun h i=>∃k:Nat,i=I k∧k≤t.size∧h=J (hashL ((bsL t).take k))) (fun _ i=>t.size-(intOf i).toNat)
 case atStart=>exact⟨0,rfl,Nat.zero_le _,rfl⟩
 case round=>
  obtain⟨k,rfl,hk,rfl⟩:=hrel;have hr:=hash_range ((bsL t).take k)
  by_cases hlt:k<t.size
  ·have hby:0≤(t[k].toNat:Int)∧(t[k].toNat:Int)≤255:=by have:=t[k].toNat_lt;omega
   have hx:=bits_xor (hashL ((bsL t).take k)) (t[k].toNat:Int) hr hby;have hst:hashL ((bsL t).take (k+1))=hashStep (hashL ((bsL t).take k)) (t[k].toNat:Int):=by
    rw[hash_take _ _ (by rw[bsL_len];exact hlt),bsL_get t k hlt]
   generalize hashL ((bsL t).take k)=h at*;obtain⟨h0,h1⟩:=hr;obtain⟨g0,g1⟩:=hby;have i3:(k:Int)<(t.size:Int):=by omega
   have Hst:=hid hst;have Hx:=hid hx;clear hst hx
   go_wp2_with fail
   go_round
   case rel=>
    refine⟨k+1,by go_num,by omega,?_⟩
    rw[Hst.out,Hx.out];rfl
   case measure=>simp[intOf];omega
  ·have hkn:k=t.size:=by omega
   subst hkn
   go_wp2_with fail
   refine hR'.out _ _ ⟨?_,rfl⟩;rw[List.take_of_length_le (by rw[bsL_len];omega)]
set_option maxRecDepth 100000 in
set_option maxHeartbeats 1000000 in
theorem pack_key (f:Int)(t:ByteArray)(hf:0≤f∧f≤255)(ht:t.size≤140737488351232)(w:World):
  Z 74 #[.int .u8 f,.string t] w fun e w'=>∃s,e= .returned (.string s)∧bsL s=f::bsL t∧Keeps (· <w.heap.size) w w':=by
 have hcv:=run_convert_bytes_back (P:=Tryz.prog) (w.alloc (.cells #[.int .u8 f] 5)) 186 9 5 ⟨w.heap.size,0,none⟩ 1 [UInt8.ofNat f.toNat] Tryz.underlying186 Tryz.underlying5 Tryz.underlying9 (by
  intro j hj;have:j=0:=by simpa using hj
  subst this;have e:=(Blk.new w [.int .u8 f] 5).cell 0;simp only[List.getElem?_cons_zero]at e;have:((UInt8.ofNat f.toNat).toNat:Int)=f:=by
   rw[UInt8.toNat_ofNat'];omega
  show _=some (Value.int .u8 ((UInt8.ofNat f.toNat).toNat:Int));rw[this];exact e)
 simp only[List.length_singleton]at hcv;refine calls_hide fun R' hR'=>?_
 go_enter Tryz.func74,Tryz.ntmps74
 go_wp2_with fail
 refine hR'.out _ _ ⟨_,rfl,?_,(Keeps.refl _ _).alloc (fun b hb=>hb) _⟩;have e1:((UInt8.ofNat f.toNat).toNat:Int)=f:=by rw[UInt8.toNat_ofNat'];omega
 simp only[bsL,ByteArray.data_append,Array.toList_append,List.map_append,List.map_cons,List.map_nil,e1]
 rfl
def cmpD (a:Int):List Int→Nat→Tree Bool
 | [],_=> .ret true
 |c::cs,k=> .load (a+2+k) fun x=>if x≠c then .ret false else .off fun o=>if o=true then .ret false else cmpD a cs (k+1)
def findD (s:Int)(n h:Nat)(cells:List Int)(len:Int):Nat→Nat→Tree (Int×Int)
 |0,_=> .ret (0,-1)
 |f+1,i=> .load (s+(((h+i)%n:Nat):Int)) fun a=> .off fun o=>if o=true then .ret (0,-1)else if a=0 then .ret (0,(((h+i)%n:Nat):Int))else
   .load (a+1) fun ln=>if ln≠len then findD s n h cells len f (i+1)else
    (cmpD a cells 0).bind fun ok=>if ok=true then .ret (a,(((h+i)%n:Nat):Int))else findD s n h cells len f (i+1)
def storesD (a:Int):List Int→Nat→Tree Unit
 | [],_=> .ret ()
 |c::cs,k=> .store (a+2+k) c (storesD a cs (k+1))
def putD (a sl len:Int)(cells:List Int):Tree Unit:= .store (a+1) len ((storesD a cells 0).bind fun _=> .store sl a (.ret ()))
abbrev Tab:Type:=Nat→Option (List Int×Nat)
def Tab.le (t t':Tab):Prop:=∀i e,t i=some e→t' i=some e
def Tab.put (t:Tab)(i:Nat)(e:List Int×Nat):Tab:=fun j=>if j=i then some e else t j
structure Rep (cs:List Int)(s n:Nat)(t:Tab)(lo hi:Nat):Prop where
 len:s+n≤cs.length
 book:hi≤s
 pos:1≤lo
 void:∀i,i<n→t i=none→cs[s+i]? =some 0
 slot:∀i k a,i<n→t i=some (k,a)→cs[s+i]? =some (a:Int)
 lies:∀i k a,i<n→t i=some (k,a)→lo≤a∧a+2+(packC k).length≤hi∧k.length≤100∧(∀x∈k,Byte x)
 size:∀i k a,i<n→t i=some (k,a)→cs[a+1]? =some (k.length:Int)
 key:∀i k a,i<n→t i=some (k,a)→∀(j:Nat) (c:Int),(packC k)[j]? =some c→cs[a+2+j]? =some c
def probe (t:Tab)(n h:Nat)(key:List Int):Nat→Nat→Int×Int
 |0,_=>(0,-1)
 |f+1,i=>match t ((h+i)%n)with
  |none=>(0,(((h+i)%n:Nat):Int))
  |some (k,a)=>if k=key then((a:Int),(((h+i)%n:Nat):Int))else probe t n h key f (i+1)
theorem probe_none {t:Tab}{n h f i:Nat}{key:List Int}(e:t ((h+i)%n)=none):probe t n h key (f+1) i=(0,(((h+i)%n:Nat):Int)):=by
 show(match t ((h+i)%n)with|none=>_|some (k,a)=>_)=_
 rw[e]
theorem probe_hit {t:Tab}{n h f i a:Nat}{key:List Int}(e:t ((h+i)%n)=some (key,a)):probe t n h key (f+1) i=((a:Int),(((h+i)%n:Nat):Int)):=by
 show(match t ((h+i)%n)with|none=>_|some (k,a)=>_)=_
 rw[e];simp
theorem probe_miss {t:Tab}{n h f i a:Nat}{key k:List Int}(e:t ((h+i)%n)=some (k,a))(hk:k≠key):probe t n h key (f+1) i=probe t n h key f (i+1):=by
 show(match t ((h+i)%n)with|none=>_|some (k,a)=>_)=_
 rw[e];simp[hk]
theorem getD_of {cs:List Int}{i:Nat}{x:Int}(h:cs[i]? =some x):i<cs.length∧cs.getD i 0=x:=by
 refine⟨(List.getElem?_eq_some_iff.1 h).1,?_⟩;rw[List.getD_eq_getElem?_getD,h];rfl
theorem load_ideal {α:Type}{k:Int→Tree α}{cs:List Int}{a:Int}{i:Nat}{x:Int}(ha:a=i)(h:cs[i]? =some x):
  (Tree.load a k).ideal cs=((k x).ideal cs).map fun y=>(y.1,y.2.1,y.2.2+1):=by
 obtain⟨h1,h2⟩:=getD_of h;subst ha;show(if 0≤(i:Int)∧(i:Int)<cs.length then _ else _)=_
 rw[if_pos ⟨by omega,by omega⟩,Int.toNat_natCast,h2]
theorem cmpD_ideal {cs:List Int}{a:Nat}:∀(L2 L1:List Int) (k:Nat),L1.length=L2.length→(∀(j:Nat) c,L1[j]? =some c→cs[a+2+k+j]? =some c)→
  ∃n,n≤L2.length∧(cmpD a L2 k).ideal cs=some (decide (L1=L2),cs,n)
 | [],L1,k,hl,_=>by
  have:L1=[]:=List.length_eq_zero_iff.1 hl;subst this;exact⟨0,Nat.le_refl _,rfl⟩
 |c::L2,[],k,hl,_=>by simp at hl
 |c::L2,d::L1,k,hl,h=>by
  have h0:=h 0 d rfl;have e:=load_ideal (k:=fun x=>if x≠c then Tree.ret false else .off fun o=>if o=true then .ret false else cmpD a L2 (k+1)) (a:=(a:Int)+2+k) (i:=a+2+k+0) (by omega) h0
  unfold cmpD;rw[e]
  by_cases hdc:d=c
  ·subst hdc;rw[if_neg (by simp)]
   obtain⟨n,hn,hi⟩:=cmpD_ideal L2 L1 (k+1) (by simpa using hl) (fun j c hj=>by
    have:=h (j+1) c (by simpa using hj)
    rw[←this,show a+2+(k+1)+j=a+2+k+(j+1) by omega])
   refine⟨n+1,by simp;omega,?_⟩
   show((cmpD (a:Int) L2 (k+1)).ideal cs).map _=_;rw[hi];simp
  ·rw[if_pos hdc];refine⟨1,by simp,?_⟩
   simp[Tree.ideal,hdc]
theorem findD_ideal {cs:List Int}{s n:Nat}{t:Tab}{lo hi:Nat}(R:Rep cs s n t lo hi)(hn:0<n)(h:Nat)(key:List Int)(hk:∀x∈key,Byte x):∀(f i:Nat),
  ∃cnt,cnt≤f*27∧(findD s n h (packC key) key.length f i).ideal cs=some (probe t n h key f i,cs,cnt)
 |0,i=>⟨0,by omega,rfl⟩
 |f+1,i=>by
  have hlt:(h+i)%n<n:=Nat.mod_lt _ hn;obtain⟨cnt,hc,hi'⟩:=findD_ideal R hn h key hk f (i+1)
  cases e:t ((h+i)%n)with
  |none=>
   refine⟨1,by omega,?_⟩
   rw[probe_none e];unfold findD;rw[load_ideal (i:=s+(h+i)%n) (by omega) (R.void _ hlt e)]
   rfl
  |some p=>
   obtain⟨k,a⟩:=p;obtain⟨r1,r2,r3,r4⟩:=R.lies _ _ _ hlt e;have hpos:=R.pos;unfold findD;rw[load_ideal (i:=s+(h+i)%n) (by omega) (R.slot _ _ _ hlt e)]
   have step2:(Tree.load ((a:Int)+1) fun ln=>if ln≠(key.length:Int)then findD s n h (packC key) key.length f (i+1)else
     (cmpD a (packC key) 0).bind fun ok=>if ok=true then .ret ((a:Int),(((h+i)%n:Nat):Int))else findD s n h (packC key) key.length f (i+1)).ideal cs=
     ((if(k.length:Int)≠(key.length:Int)then findD s n h (packC key) key.length f (i+1)else
     (cmpD a (packC key) 0).bind fun ok=>if ok=true then .ret ((a:Int),(((h+i)%n:Nat):Int))else findD s n h (packC key) key.length f (i+1)).ideal cs).map fun y=>(y.1,y.2.1,y.2.2+1):=
    load_ideal (i:=a+1) (by omega) (R.size _ _ _ hlt e)
   have hz:((a:Int)=0)=False:=by simp;omega
   have inner:∃c2,c2≤f*27+26∧(Tree.load ((a:Int)+1) fun ln=>if ln≠(key.length:Int)then findD s n h (packC key) key.length f (i+1)else
     (cmpD a (packC key) 0).bind fun ok=>if ok=true then .ret ((a:Int),(((h+i)%n:Nat):Int))else findD s n h (packC key) key.length f (i+1)).ideal cs=some (probe t n h key (f+1) i,cs,c2):=by
    rw[step2]
    by_cases hl:k.length=key.length
    ·rw[if_neg (by simp[hl])]
     have hpl:(packC k).length=(packC key).length:=by rw[packC_len,packC_len,hl]
     obtain⟨m,hm,hmi⟩:=cmpD_ideal (cs:=cs) (a:=a) (packC key) (packC k) 0 hpl (fun j c hj=>R.key _ _ _ hlt e j c hj);rw[Tree.ideal_bind,hmi];have hml:m≤25:=by rw[packC_len]at hm;omega
     exact c98
    ·rw[if_pos (by omega),hi',probe_miss e (fun e=>hl (by rw[e]))]
     exact⟨cnt+1,by omega,rfl⟩
   obtain⟨c2,h1,h2⟩:=inner;refine⟨c2+1,by omega,?_⟩
   have:((fun a:Int=>Tree.off fun o=>if o=true then .ret ((0:Int),(-1:Int))else if a=0 then .ret ((0:Int),(((h+i)%n:Nat):Int))else
    .load (a+1) fun ln=>if ln≠(key.length:Int)then findD s n h (packC key) key.length f (i+1)else
    (cmpD a (packC key) 0).bind fun ok=>if ok=true then .ret (a,(((h+i)%n:Nat):Int))else findD s n h (packC key) key.length f (i+1)) (a:Int)).ideal cs=some (probe t n h key (f+1) i,cs,c2):=by
    show(if false=true then _ else if(a:Int)=0 then _ else _:Tree (Int×Int)).ideal cs=_
    rw[if_neg (by decide),if_neg (by rw[hz];exact id)]
    exact h2
   rw[this];rfl
structure WF (t:Tab)(n:Nat)(hash:List Int→Nat):Prop where
 pos:∀i k a,i<n→t i=some (k,a)→0<a
 path:∀i k a,i<n→t i=some (k,a)→∃j,j<n∧(hash k+j)%n=i∧∀j',j'<j→∃k' a',t ((hash k+j')%n)=some (k',a')∧k'≠k
theorem probe_cases (t:Tab)(n h:Nat)(key:List Int):∀(f i:Nat),
  (∃j,i≤j∧j<i+f∧(∀j',i≤j'→j'<j→∃k a,t ((h+j')%n)=some (k,a)∧k≠key)∧
   ((t ((h+j)%n)=none∧probe t n h key f i=(0,(((h+j)%n:Nat):Int)))∨∃a:Nat,t ((h+j)%n)=some (key,a)∧probe t n h key f i=((a:Int),(((h+j)%n:Nat):Int))))∨
  ((∀j',i≤j'→j'<i+f→∃k a,t ((h+j')%n)=some (k,a)∧k≠key)∧probe t n h key f i=(0,-1))
 |0,i=>Or.inr ⟨fun j' h1 h2=>by omega,rfl⟩
 |f+1,i=>by
  cases e:t ((h+i)%n)with
  |none=>exact Or.inl ⟨i,Nat.le_refl _,by omega,fun j' h1 h2=>by omega,Or.inl ⟨e,probe_none e⟩⟩
  |some p=>
   obtain⟨k,a⟩:=p
   by_cases hk:k=key
   ·subst hk;exact Or.inl ⟨i,Nat.le_refl _,by omega,fun j' h1 h2=>by omega,Or.inr ⟨a,e,probe_hit e⟩⟩
   ·rw[probe_miss e hk]
    rcases probe_cases t n h key f (i+1)with⟨j,h1,h2,h3,h4⟩|⟨h1,h2⟩
    ·refine Or.inl ⟨j,by omega,by omega,fun j' g1 g2=>?_,h4⟩
     rcases Nat.eq_or_lt_of_le g1 with rfl|g
     ·exact⟨k,a,e,hk⟩
     ·exact h3 j' (by omega) g2
    ·refine Or.inr ⟨fun j' g1 g2=>?_,h2⟩
     rcases Nat.eq_or_lt_of_le g1 with rfl|g
     ·exact⟨k,a,e,hk⟩
     ·exact h1 j' (by omega) (by omega)
theorem probe_sound {t:Tab}{n h:Nat}{key:List Int}{f i:Nat}{x y:Int}(e:probe t n h key f i=(x,y))(hx:x≠0)(hn:0<n):∃j a:Nat,j<n∧t j=some (key,a)∧x=a∧y=j:=by
 rcases probe_cases t n h key f i with⟨j,_,_,_,⟨_,h5⟩|⟨a,h4,h5⟩⟩|⟨_,h2⟩
 ·rw[h5]at e;injection e with e1 _;exact absurd e1.symm hx
 ·rw[h5]at e;injection e with e1 e2
  exact⟨(h+j)%n,a,Nat.mod_lt _ hn,h4,e1.symm,e2.symm⟩
 ·rw[h2]at e;injection e with e1 _;exact absurd e1.symm hx
theorem probe_complete {t:Tab}{n:Nat}{hash:List Int→Nat}(W:WF t n hash){i:Nat}{k:List Int}{a:Nat}(hi:i<n)(e:t i=some (k,a)):probe t n (hash k) k n 0=((a:Int),(i:Int)):=by
 obtain⟨j,h1,h2,h3⟩:=W.path i k a hi e
 rcases probe_cases t n (hash k) k n 0 with⟨j1,g1,g2,g3,g4⟩|⟨g1,_⟩
 ·rcases Nat.lt_trichotomy j1 j with h|h|h
  ·obtain⟨k',a',p1,p2⟩:=h3 j1 h
   rcases g4 with⟨g5,_⟩|⟨a2,g5,_⟩
   ·rw[g5]at p1;cases p1
   ·rw[g5]at p1;injection p1 with p1;injection p1 with p1 _;exact absurd p1.symm p2
  ·subst h;rw[h2]at g4
   rcases g4 with⟨g5,_⟩|⟨a2,g5,g6⟩
   ·rw[g5]at e;cases e
   ·rw[g5]at e;injection e with e;injection e with _ e;subst e;exact g6
  ·obtain⟨k',a',p1,p2⟩:=g3 j (Nat.zero_le _) h;rw[h2,e]at p1;injection p1 with p1;injection p1 with p1 _;exact absurd p1.symm p2
 ·obtain⟨k',a',p1,p2⟩:=g1 j (Nat.zero_le _) (by omega)
  rw[h2,e]at p1;injection p1 with p1;injection p1 with p1 _;exact absurd p1.symm p2
theorem WF.empty (n:Nat)(hash:List Int→Nat):WF (fun _=>none) n hash:=⟨fun _ _ _ _ e=>(by cases e),fun _ _ _ _ e=>(by cases e)⟩
theorem Tab.put_le {t:Tab}{i:Nat}{e:List Int×Nat}(h:t i=none):t.le (t.put i e):=by
 intro j x hx;unfold Tab.put
 split
 ·rename_i hj;subst hj;rw[h]at hx;cases hx
 ·exact hx
theorem Tab.put_self (t:Tab)(i:Nat)(e:List Int×Nat):t.put i e i=some e:=by simp[Tab.put]
theorem Tab.put_ne (t:Tab){i j:Nat}(e:List Int×Nat)(h:j≠i):t.put i e j=t j:=by simp[Tab.put,h]
theorem WF.put {t:Tab}{n:Nat}{hash:List Int→Nat}(W:WF t n hash)(hn:0<n){key:List Int}{sl:Nat}(hp:probe t n (hash key) key n 0=(0,(sl:Int)))(a:Nat)(ha:0<a):
  sl<n∧t sl=none∧WF (t.put sl (key,a)) n hash:=by
 rcases probe_cases t n (hash key) key n 0 with⟨j,_,h2,h3,⟨h4,h5⟩|⟨a2,h4,h5⟩⟩|⟨_,h2⟩
 ·rw[hp]at h5;injection h5 with _ h5
  have hs:sl=(hash key+j)%n:=by omega
  rw[←hs]at h4;refine⟨by rw[hs];exact Nat.mod_lt _ hn,h4,⟨fun i k b hi e=>?_,fun i k b hi e=>?_⟩⟩
  ·by_cases his:i=sl
   ·subst his;rw[Tab.put_self]at e;injection e with e;injection e with e1 e2
    omega
   ·rw[Tab.put_ne _ _ his]at e;exact W.pos i k b hi e
  by_cases his:i=sl
  ·subst his;rw[Tab.put_self]at e;injection e with e;injection e with e1 e2
   subst e1 e2;refine⟨j,by omega,hs.symm,fun j' hj'=>?_⟩
   obtain⟨k',a',p1,p2⟩:=h3 j' (Nat.zero_le _) hj';exact⟨k',a',Tab.put_le h4 _ _ p1,p2⟩
  ·rw[Tab.put_ne _ _ his]at e;obtain⟨j0,g1,g2,g3⟩:=W.path i k b hi e;exact⟨j0,g1,g2,fun j' hj'=>by
    obtain⟨k',a',p1,p2⟩:=g3 j' hj';exact⟨k',a',Tab.put_le h4 _ _ p1,p2⟩⟩
 ·rw[hp]at h5;injection h5 with h5 h6
  have:=W.pos _ _ _ (Nat.mod_lt _ hn) h4
  omega
 ·rw[hp]at h2;injection h2 with _ h2
  omega
def storesC (cs:List Int)(a:Nat):List Int→Nat→List Int
 | [],_=>cs
 |c::L,k=>storesC (cs.set (a+2+k) c) a L (k+1)
def putC (cs:List Int)(a sl:Nat)(len:Int)(L:List Int):List Int:=(storesC (cs.set (a+1) len) a L 0).set sl (a:Int)
theorem storesC_len (a:Nat):∀(L:List Int) (cs:List Int) (k:Nat),(storesC cs a L k).length=cs.length
 | [],cs,k=>rfl
 |c::L,cs,k=>by
  show(storesC (cs.set (a+2+k) c) a L (k+1)).length=_;rw[storesC_len a L,List.length_set]
theorem putC_len (cs:List Int)(a sl:Nat)(len:Int)(L:List Int):(putC cs a sl len L).length=cs.length:=by
 unfold putC;rw[List.length_set,storesC_len,List.length_set]
theorem storesC_out (a:Nat):∀(L:List Int) (cs:List Int) (k i:Nat),i<a+2+k∨a+2+k+L.length≤i→(storesC cs a L k)[i]? =cs[i]?
 | [],cs,k,i,_=>rfl
 |c::L,cs,k,i,h=>by
  show(storesC (cs.set (a+2+k) c) a L (k+1))[i]? =_;rw[List.length_cons]at h;rw[storesC_out a L _ (k+1) i (by omega),List.getElem?_set_ne (by omega)]
theorem storesC_in (a:Nat):∀(L:List Int) (cs:List Int) (k j:Nat) (c:Int),a+2+k+L.length≤cs.length→L[j]? =some c→(storesC cs a L k)[a+2+k+j]? =some c
 | [],cs,k,j,c,_,h=>by simp at h
 |d::L,cs,k,0,c,hl,h=>by
  have h:d=c:=by simpa using h
  subst h;show(storesC (cs.set (a+2+k) d) a L (k+1))[a+2+k]? =_;rw[List.length_cons]at hl;rw[storesC_out a L _ (k+1) _ (by omega),List.getElem?_set_self (by omega)]
 |d::L,cs,k,j+1,c,hl,h=>by
  show(storesC (cs.set (a+2+k) d) a L (k+1))[a+2+k+(j+1)]? =_;have e:a+2+k+(j+1)=a+2+(k+1)+j:=by omega
  rw[List.length_cons]at hl;rw[e];exact storesC_in a L _ (k+1) j c (by rw[List.length_set];omega) (by simpa using h)
theorem store_ideal {α:Type}{k:Tree α}{cs:List Int}{a v:Int}{i:Nat}(ha:a=i)(h:i<cs.length):
  (Tree.store a v k).ideal cs=(k.ideal (cs.set i v)).map fun y=>(y.1,y.2.1,y.2.2+1):=by
 subst ha;show(if 0≤(i:Int)∧(i:Int)<cs.length then _ else _)=_
 rw[if_pos ⟨by omega,by omega⟩,Int.toNat_natCast]
theorem storesD_ideal (a:Nat):∀(L:List Int) (cs:List Int) (k:Nat),a+2+k+L.length≤cs.length→(storesD a L k).ideal cs=some ((),storesC cs a L k,L.length)
 | [],cs,k,_=>rfl
 |c::L,cs,k,h=>by
  rw[List.length_cons]at h;unfold storesD;rw[store_ideal (i:=a+2+k) (by omega) (by omega),storesD_ideal a L _ (k+1) (by rw[List.length_set];omega)]
  rfl
theorem putD_ideal {cs:List Int}{a sl:Nat}{len:Int}{L:List Int}(h:a+2+L.length≤cs.length)(hs:sl<cs.length):
  (putD a sl len L).ideal cs=some ((),putC cs a sl len L,L.length+2):=by
 unfold putD;rw[store_ideal (i:=a+1) (by omega) (by omega),Tree.ideal_bind,storesD_ideal a L _ 0 (by rw[List.length_set];omega)]
 show((((Tree.store (sl:Int) (a:Int) (.ret ())).ideal (storesC (cs.set (a+1) len) a L 0)).map _)).map _=_;rw[store_ideal (i:=sl) rfl (by rw[storesC_len,List.length_set];exact hs)]
 simp[Tree.ideal,putC]
 omega
theorem Rep.put {cs:List Int}{s n:Nat}{t:Tab}{lo hi:Nat}(R:Rep cs s n t lo hi){key:List Int}{sl hi':Nat}(hsl:sl<n)(ht:t sl=none)(hlh:lo≤hi)(hh:hi'=hi+2+(packC key).length)(hs:hi'≤s)
  (hk:key.length≤100) (hb:∀x∈key,Byte x):Rep (putC cs hi (s+sl) key.length (packC key)) s n (t.put sl (key,hi)) lo hi':=by
 have hlen:=R.len;have hpos:=R.pos;have out:∀i,(i<hi+1∨hi'≤i)→i≠s+sl→(putC cs hi (s+sl) key.length (packC key))[i]? =cs[i]? :=by
  intro i h1 h2;unfold putC;rw[List.getElem?_set_ne (fun e=>h2 e.symm),storesC_out _ _ _ _ _ (by omega),List.getElem?_set_ne (by omega)]
 refine⟨by rw[putC_len];exact hlen,hs,hpos,?_,?_,?_,?_,?_⟩
 ·intro i hi0 e;have hne:i≠sl:=fun h=>by rw[h,Tab.put_self]at e;cases e
  rw[Tab.put_ne _ _ hne]at e;rw[out _ (Or.inr (by omega)) (by omega)];exact R.void i hi0 e
 ·intro i k a hi0 e
  by_cases h:i=sl
  ·subst h;rw[Tab.put_self]at e;injection e with e;injection e with _ e
   subst e;unfold putC;rw[List.getElem?_set_self (by rw[storesC_len,List.length_set];omega)]
  ·rw[Tab.put_ne _ _ h]at e;rw[out _ (Or.inr (by omega)) (by omega)];exact R.slot i k a hi0 e
 ·intro i k a hi0 e
  by_cases h:i=sl
  ·subst h;rw[Tab.put_self]at e;injection e with e;injection e with e1 e2
   subst e1 e2;exact⟨hlh,by omega,hk,hb⟩
  ·rw[Tab.put_ne _ _ h]at e;have:=R.lies i k a hi0 e;exact⟨this.1,by omega,this.2.2⟩
 ·intro i k a hi0 e
  by_cases h:i=sl
  ·subst h;rw[Tab.put_self]at e;injection e with e;injection e with e1 e2
   subst e1 e2;unfold putC;rw[List.getElem?_set_ne (by omega),storesC_out _ _ _ _ _ (by omega),List.getElem?_set_self (by omega)]
  ·rw[Tab.put_ne _ _ h]at e;have:=R.lies i k a hi0 e;rw[out _ (Or.inl (by omega)) (by omega)];exact R.size i k a hi0 e
 ·intro i k a hi0 e j c hj
  by_cases h:i=sl
  ·subst h;rw[Tab.put_self]at e;injection e with e;injection e with e1 e2
   subst e1 e2;unfold putC;have hjl:j<(packC key).length:=(List.getElem?_eq_some_iff.1 hj).1;rw[List.getElem?_set_ne (by omega)]
   have:=storesC_in hi (packC key) (cs.set (hi+1) key.length) 0 j c (by rw[List.length_set];omega) hj
   rw[Nat.add_zero]at this;exact this
  ·rw[Tab.put_ne _ _ h]at e;have:=R.lies i k a hi0 e;have hjl:j<(packC k).length:=(List.getElem?_eq_some_iff.1 hj).1;rw[out _ (Or.inl (by omega)) (by omega)];exact R.key i k a hi0 e j c hj
theorem Tryz.sizeU:(Tryz.prog.info? 32).map (·.size)=some 1:=by kernel_rfl
set_option maxRecDepth 100000 in
set_option maxHeartbeats 400000 in
theorem mem_cells {w:World}{m c:Nat}{μ:MemS}(h:MemAt w m c μ):
  Z 20 #[.pointer (some ⟨m,0,none⟩)] w fun e w'=>
   e= .returned (.slice (some ⟨w.heap.size,0,none⟩) μ.cells.length μ.cells.length)∧Blk w' w.heap.size (μ.cells.map (Value.int .u32))∧Keeps (· <w.heap.size) w w':=by
 have hs:=h.small;have c0:=h.obj.cell 0;have c1:=h.obj.cell 1;have hlt:=h.obj.lt;simp only[List.getElem?_cons_zero,List.getElem?_cons_succ]at c0 c1;have hmk:=fun w=>run_make_row' (P:=Tryz.prog) 47 32 (J 0) 4 Tryz.underlying47 Tryz.infoU rfl .i64 .i64 μ.cells.length (by omega) (by omega) w
 have hb0:=made_blk w (J 0) μ.cells.length 32;have hcw:=h.cells.alloc (.cells (madeCells #[J 0] μ.cells.length) 32);have hhg:(w.alloc (.cells (madeCells #[J 0] μ.cells.length) 32)).heap[w.heap.size]? =some (.cells (List.replicate μ.cells.length (J 0)).toArray 32 (0,0)):=by
  have e:madeCells #[J 0] μ.cells.length=(List.replicate μ.cells.length (J 0)).toArray:=by
   apply Array.ext';rw[toList_madeCells_one]
  rw[e];exact heap_alloc_new w _
 have HG:=hid hhg;have HC:=hid hcw;have HN:=hid (show(μ.cells.map (Value.int .u32)).length=μ.cells.length from List.length_map ..)
 clear h hb0 hcw hhg;refine calls_hide fun R' hR'=>?_
 go_enter Tryz.func20,Tryz.ntmps20
 go_wp2_with (with_reducible refine wpList_copy_splice rfl (.tmp 12) (.tmp 16) 47 47 rfl 32 Tryz.underlying47 Tryz.sizeU _ _ _ _ _ _ rfl rfl w.heap.size 0 (List.replicate μ.cells.length (J 0)) 32 HG.out (μ.cells.map (Value.int .u32)) ?hn ?hpos ?hfit ?h1 w.heap.size w ?hb (Nat.le_refl _) ?_)
 case hn=>rw[HN.out];simp
 case hpos=>intro _ j x hj;rw[HC.out.cell,List.getElem?_map,hj];rfl
 case hfit=>simp
 case h1=>intro u hu;obtain⟨x,_,rfl⟩:=List.mem_map.1 hu;rfl
 case hb=>exact(Below.refl _ _).alloc (Nat.le_refl _) _
 exact c136
set_option maxRecDepth 100000 in
set_option maxHeartbeats 1000000 in
theorem same_any {w:World}{K:Nat→Prop}{xs ys:List Int}{va vb:Value}(ha:SlAt w K 1 va xs.length (xs.map (Value.int .u32)))(hb:SlAt w K 1 vb ys.length (ys.map (Value.int .u32))):
  Z 26 #[va,vb] w fun e w'=>e= .returned (.bool (decide (xs=ys)))∧∃n,w.drewN n=w':=by
 have HA:=hid ha;have HB:=hid hb;obtain⟨A,ca,rfl,h1,h2⟩:=ha.form;obtain⟨B,cb,rfl,h3,h4⟩:=hb.form;unfold maxLen at h2 h4;clear ha hb;refine calls_hide fun R' hR'=>?_
 by_cases hl:xs.length=ys.length
 ·have hbf:((xs.length:Int) !=(ys.length:Int))=false:=by simp[hl]
  have HL:=hid hl;clear hl
  go_enter Tryz.func26,Tryz.ntmps26
  go_wp2_with fail
  go_loopw[13] (fun i wr=>∃k n:Nat,i=I k∧k≤xs.length∧w.drewN n=wr∧xs.take k=ys.take k) (fun i _=>xs.length-(intOf i).toNat)
  case atStart=>exact⟨0,0,rfl,Nat.zero_le _,rfl,rfl⟩
  case round=>
   obtain⟨k,n,rfl,hk,hw,htk⟩:=hrel;have HT:=hid htk;have HW:=hid hw;clear htk hw
   by_cases hlt:k<xs.length
   ·obtain⟨b1,o1,c1,e1,_,x1⟩:=HA.out.get k xs[k] (List.getElem?_eq_getElem hlt);obtain⟨b2,o2,c2,e2,_,x2⟩:=HB.out.get k (ys[k]'(by have:=HL.out;omega)) (List.getElem?_eq_getElem _)
    injection e1 with e1 _ e1'
    injection e2 with e2 _ e2'
    subst e1 e1' e2 e2';have y1:wr.cell? ⟨b1,o1+k,none⟩=some (J xs[k]):=by rw[←HW.out];exact x1
    have y2:wr.cell? ⟨b2,o2+k,none⟩=some (J (ys[k]'(by have:=HL.out;omega))):=by rw[←HW.out];exact x2
    have hlt2:k<ys.length:=by have:=HL.out;omega
    have i1:(k:Int)<(xs.length:Int):=by omega
    have i2:(k:Int)<(ys.length:Int):=by omega
    generalize hx:xs[k]=x at*;generalize hy:ys[k]=y at*;have HX:=hid hx;have HY:=hid hy;clear hx hy x1 x2
    by_cases hxy:x=y
    ·have hb:(x !=y)=false:=by simp[hxy]
     have HXY:=hid hxy;clear hxy
     go_wp2_with fail
     go_quiet (fail)
     go_wp2_with fail
     go_roundw
     case rel=>exact⟨k+1,n+nq,by go_num,by omega,by rw[←HW.out];simp[World.drewN,Nat.add_assoc],by
      rw[List.take_succ_eq_append_getElem hlt,List.take_succ_eq_append_getElem hlt2,HT.out,HX.out,HY.out,HXY.out]⟩
     case measure=>simp[intOf];omega
    ·have hb:(x !=y)=true:=by simp[hxy]
     have HXY:=hid hxy;clear hxy
     go_wp2_with fail
     go_quiet (fail)
     go_wp2_with fail
     refine hR'.out _ _ ⟨?_,n+nq,by rw[←HW.out];simp[World.drewN,Nat.add_assoc]⟩
     have:xs≠ys:=fun e=>HXY.out (by rw[←HX.out,←HY.out];simp[e])
     simp[this]
   ·have hkl:k=xs.length:=by omega
    subst hkl
    go_wp2_with fail
    refine hR'.out _ _ ⟨?_,n,HW.out⟩;have:xs=ys:=by have:=HT.out;rw[List.take_length,HL.out,List.take_length]at this;exact this
    simp[this]
 ·have hbf:((xs.length:Int) !=(ys.length:Int))=true:=by simp;omega
  have HL:=hid hl;clear hl
  go_enter Tryz.func26,Tryz.ntmps26
  go_wp2_with fail
  refine hR'.out _ _ ⟨?_,0,rfl⟩;have:xs≠ys:=fun e=>HL.out (by rw[e])
  simp[this]
def homeD (n:Nat)(l:List Int):Nat:=(hashL l).toNat%n
section
variable {s0:Int}{n h f i:Nat}{C:List Int}{len:Int}{s s1 s2:St}{x y:Int}
theorem findD_off (e:s.load (s0+(((h+i)%n:Nat):Int))=(x,s1))(ho:s1.isOff=true):(findD s0 n h C len (f+1) i).exec s=((0,-1),s1):=by
 show(if(s.load (s0+(((h+i)%n:Nat):Int))).2.isOff=true then Tree.ret (0,-1)else _:Tree (Int×Int)).exec (s.load (s0+(((h+i)%n:Nat):Int))).2=_
 rw[e,if_pos ho];rfl
theorem findD_zero (e:s.load (s0+(((h+i)%n:Nat):Int))=(0,s1))(ho:s1.isOff=false):(findD s0 n h C len (f+1) i).exec s=((0,(((h+i)%n:Nat):Int)),s1):=by
 have zz58:=PLift.up @c339;exact c338
def contD (s0:Int)(n h:Nat)(C:List Int)(len:Int)(f i:Nat)(x:Int)(ok:Bool):Tree (Int×Int):=if ok=true then .ret (x,(((h+i)%n:Nat):Int))else findD s0 n h C len f (i+1)
theorem findD_len (e:s.load (s0+(((h+i)%n:Nat):Int))=(x,s1))(ho:s1.isOff=false)(hx:x≠0)(e2:s1.load (x+1)=(y,s2))(hy:y≠len):
  (findD s0 n h C len (f+1) i).exec s=(findD s0 n h C len f (i+1)).exec s2:=by
 have zz58:=PLift.up @c340;exact c338
theorem findD_cmp (e:s.load (s0+(((h+i)%n:Nat):Int))=(x,s1))(ho:s1.isOff=false)(hx:x≠0)(e2:s1.load (x+1)=(len,s2)):
  (findD s0 n h C len (f+1) i).exec s=((cmpD x C 0).bind (contD s0 n h C len f i x)).exec s2:=by
 have zz58:=PLift.up @c341;exact c338
theorem cmpD_no {a c:Int}{L:List Int}{k:Nat}{F:Bool→Tree (Int×Int)}(e:s.load (a+2+k)=(x,s1))(hx:x≠c):((cmpD a (c::L) k).bind F).exec s=(F false).exec s1:=by
 show((if(s.load (a+2+k)).1≠c then Tree.ret false else _).bind F).exec (s.load (a+2+k)).2=_
 rw[e,if_pos hx];rfl
theorem cmpD_halt {a c:Int}{L:List Int}{k:Nat}{F:Bool→Tree (Int×Int)}(e:s.load (a+2+k)=(c,s1))(ho:s1.isOff=true):((cmpD a (c::L) k).bind F).exec s=(F false).exec s1:=by
 show((if(s.load (a+2+k)).1≠c then Tree.ret false else .off fun o=>if o=true then .ret false else cmpD a L (k+1)).bind F).exec (s.load (a+2+k)).2=_
 rw[e,if_neg (by simp)]
 show((if s1.isOff=true then Tree.ret false else cmpD a L (k+1)).bind F).exec s1=_
 rw[if_pos ho];rfl
theorem cmpD_yes {a c:Int}{L:List Int}{k:Nat}{F:Bool→Tree (Int×Int)}(e:s.load (a+2+k)=(c,s1))(ho:s1.isOff=false):((cmpD a (c::L) k).bind F).exec s=((cmpD a L (k+1)).bind F).exec s1:=by
 show((if(s.load (a+2+k)).1≠c then Tree.ret false else .off fun o=>if o=true then .ret false else cmpD a L (k+1)).bind F).exec (s.load (a+2+k)).2=_
 rw[e,if_neg (by simp)]
 show((if s1.isOff=true then Tree.ret false else cmpD a L (k+1)).bind F).exec s1=_
 rw[if_neg (by rw[ho];decide)]
end
set_option maxRecDepth 100000 in
set_option maxHeartbeats 2000000 in
theorem dict_find {w:World}{K:Nat→Prop}{r m c:Nat}{s:St}(h:RM w K r m c s)(s0:Int)(n:Nat)(t:ByteArray)(hs:0≤s0∧s0≤65536)(hn:1≤n∧n≤65536)(ht:t.size≤140737488351232):
  Z 75 #[.pointer (some ⟨r,0,none⟩),I s0,I n,.string t] w fun e w'=>
   e= .returned (.tuple #[I ((findD s0 n (homeD n (bsL t)) (packC (bsL t)) t.size n 0).exec s).1.1,I ((findD s0 n (homeD n (bsL t)) (packC (bsL t)) t.size n 0).exec s).1.2])∧
    RM w' K r m c ((findD s0 n (homeD n (bsL t)) (packC (bsL t)) t.size n 0).exec s).2∧Keeps K w w':=by
 obtain⟨s00,s01⟩:=hs;obtain⟨n0,n1⟩:=hn;have hhr:=hash_range (bsL t);have hpl:(packC (bsL t)).length=(t.size+3)/4:=by rw[packC_len,bsL_len]
 have hpr:=packC_range (l:=bsL t) (fun x hx=>bsL_range t x hx);have hhome:homeD n (bsL t)<n:=Nat.mod_lt _ (by omega)
 have hhe:hashL (bsL t)%(n:Int)=(homeD n (bsL t):Int):=by unfold homeD;rw[Int.natCast_emod,Int.toNat_of_nonneg hhr.1]
 generalize homeD n (bsL t)=ho at*;generalize hres:(findD s0 n ho (packC (bsL t)) t.size n 0).exec s=res;generalize hC:packC (bsL t)=C at*;have H:=hid h;have Hres:=hid hres;have Hpl:=hid hpl;have Hpr:=hid hpr;have Hhe:=hid hhe;have HC:=hid hC;clear h hres hpl hpr hhe hC;refine calls_hide fun R' hR'=>?_
 go_enter Tryz.func75,Tryz.ntmps75
 go_wp2_with fail
 go_step3
 go_wp2_with fail
 refine(pack_cells t ht w).mono ?_;rintro e w1 ⟨rfl,hB1,hk1⟩;have hK1:=H.out.moreB hk1;have hz1:=hk1.size;have HK1:=hid hK1;clear hK1
 go_wp2_with fail
 refine(pack_hash t ht _).mono ?_;rintro e w2 ⟨rfl,rfl⟩
 go_wp2_with fail
 have hww:wrap64 (hashL (bsL t)%(n:Int))=(ho:Int):=by rw[Hhe.out];unfold wrap64;omega
 rw[hww];clear hww hhr;generalize hK1d:(fun b=>K b∨(w.heap.size≤b∧b<w1.heap.size))=K1 at*;have hKK:∀b,K b→K1 b:=by intro b hb;rw[←hK1d];exact Or.inl hb
 have hb1K:K1 w.heap.size:=by rw[←hK1d];exact Or.inr ⟨Nat.le_refl _,hB1.lt⟩
 have hkw:Keeps K w w1:=hk1.mono H.out.lt;generalize w.heap.size=b1 at*;have HK1d:=hid hK1d;have HKK:=hid hKK;have Hb1K:=hid hb1K;have Hkw:=hid hkw;have HB1:=hid hB1;have Hz1:=hid hz1;clear hK1d hKK hb1K hkw hB1 hz1;clear hk1
 go_step3
 go_wp2_with fail
 go_loopw[29] (fun i wr=>∃(k:Nat) (s':St),i=I k∧k≤n∧RM wr K1 r m c s'∧Keeps K1 w1 wr∧(findD s0 n ho C t.size (n-k) k).exec s'=res) (fun i _=>n-(intOf i).toNat)
 case atStart=>exact⟨0,s,rfl,Nat.zero_le _,HK1.out,Keeps.refl _ _,Hres.out⟩
 case round=>
  obtain⟨k,s',rfl,hk,hR,hK,hex⟩:=hrel;have HR:=hid hR;have HK:=hid hK;clear hR hK
  by_cases hlt:k<n
  ·have e:n-k=(n-(k+1))+1:=by omega
   rw[e]at hex;have zz65:=PLift.up @c372;exact c371
  ·have hkn:n-k=0:=by omega
   rw[hkn]at hex;have hfin:((0,-1),s')=res:=hex;clear hex;have Hfin:=hid hfin;have Hkn:=hid hkn;clear hfin hkn
   go_wp2_with fail
   refine hR'.out _ _ ⟨by rw[←Hfin.out];rfl,by rw[←Hfin.out];exact HR.out.mono HKK.out,Hkw.out.trans (HK.out.mono HKK.out)⟩
theorem valid_eq (r:Int):Utf8.valid r=((decide (0≤r)&&decide (r<55296))||(decide (57344≤r)&&decide (r≤1114111))):=rfl
set_option maxRecDepth 100000 in
set_option maxHeartbeats 1000000 in
theorem ref4_may (r:Int)(w:World):Calls Tryz.prog 117 #[.int .i32 r] w fun e w'=>e= .returned (.bool (Utf8.valid r))∧w=w':=by
 have hv:=valid_eq r;generalize Utf8.valid r=v at*;have HV:=hid hv;clear hv;refine calls_hide fun R' hR'=>?_
 go_enter Tryz.func117,Tryz.ntmps117
 by_cases h1:0≤r
 ·by_cases h2:r<55296
  ·go_wp2_with fail
   exact hR'.out _ _ ⟨by rw[HV.out];simp[h1,h2],rfl⟩
  ·by_cases h3:57344≤r
   ·by_cases h4:r≤1114111
    ·go_wp2_with fail
     exact hR'.out _ _ ⟨by rw[HV.out];simp[h3,h4],rfl⟩
    ·go_wp2_with fail
     exact hR'.out _ _ ⟨by rw[HV.out];simp[h2,h4],rfl⟩
   ·have hvb:v=false:=by rw[HV.out,decide_eq_false h2,decide_eq_false h3];simp
    clear HV;subst hvb;exact c87
 ·have h3:¬57344≤r:=by omega
  have hvb:v=false:=by rw[HV.out,decide_eq_false h1,decide_eq_false h3];simp
  clear HV;subst hvb;exact c87
theorem u8v_of (n:Nat)(h:n<256):u8v (UInt8.ofNat n)= .int .u8 (n:Int):=by
 unfold u8v;rw[UInt8.toNat_ofNat',Nat.mod_eq_of_lt (by omega)]
theorem encB_of (r:Int)(c:Nat)(hc:c=if Utf8.valid r then r.toNat else 65533):encB r=if c<128 then [UInt8.ofNat c]else if c<2048 then [UInt8.ofNat (192+c/64),UInt8.ofNat (128+c%64)]
  else if c<65536 then [UInt8.ofNat (224+c/4096),UInt8.ofNat (128+c/64%64),UInt8.ofNat (128+c%64)]else [UInt8.ofNat (240+c/262144),UInt8.ofNat (128+c/4096%64),UInt8.ofNat (128+c/64%64),UInt8.ofNat (128+c%64)]:=by
 subst hc;unfold encB;simp only[Utf8.encode,Utf8.runeError]
 repeat' split
 all_goals rfl
theorem valid_max {r:Int}(h:Utf8.valid r=true):0≤r∧r≤1114111:=by
 rw[valid_eq]at h;simp only[Bool.or_eq_true,Bool.and_eq_true,decide_eq_true_eq]at h
 omega
theorem NewB.lit (w:World)(bs:List UInt8)(n:Nat)(T:TypeId)(hT:T=5)(hn:bs.length=n)(hm:n≤4):NewB w (w.alloc (.cells (bs.map u8v).toArray T)) (.slice (some ⟨w.heap.size,0,none⟩) n n) bs:=by
 subst hn;exact⟨own_lit w w.heap.size _ T 1 _ _ hT (by simp) (by unfold maxLen;omega) (Nat.le_refl _),(Keeps.refl _ _).alloc (fun b hb=>hb) _⟩
set_option maxRecDepth 100000 in
set_option maxHeartbeats 4000000 in
theorem ref4_bytes (r:Int)(hr: -2147483648≤r∧r≤2147483647)(w:World):Calls Tryz.prog 112 #[.int .i32 r] w fun e w'=>∃v,e= .returned v∧NewB w w' v (encB r):=by
 obtain⟨c,hc⟩:∃c:Nat,c=if Utf8.valid r then r.toNat else 65533:=⟨_,rfl⟩
 have hen:=encB_of r c hc;have hcm:c≤1114111:=by
  rw[hc]
  split
  ·rename_i h;have:=valid_max h;omega
  ·omega
 obtain⟨x,hx⟩:∃x:Int,x=if Utf8.valid r then r else 65533:=⟨_,rfl⟩
 have hcx:x=(c:Int):=by
  rw[hx,hc]
  cases h:Utf8.valid r with
  |true=>have:=valid_max h;rw[if_pos rfl,if_pos rfl];omega
  |false=>rw[if_neg (by decide),if_neg (by decide)];rfl
 have Hen:=hid hen;have Hc:=hid hc;have Hx:=hid hx;have Hcx:=hid hcx;clear hen hc hx hcx;refine calls_hide fun R' hR'=>?_
 go_enter Tryz.func112,Tryz.ntmps112
 go_wp2_with fail
 refine(ref4_may r w).mono ?_;rintro e w1 ⟨rfl,rfl⟩
 cases hv:Utf8.valid r with
 |true=>
  have hrx:r=(c:Int):=by rw[←Hcx.out,Hx.out,hv,if_pos rfl]
  have hr0:0≤r:=by omega
  have hr1:r≤1114111:=by omega
  clear Hc Hx Hcx hr
  by_cases h1:c<128
  ·have h1I:r<128:=by omega
   have he:=Hen.out;rw[if_pos h1]at he;have hn:=NewB.lit w [UInt8.ofNat c] 1 5 rfl rfl (by decide)
   rw[List.map_cons,List.map_nil,u8v_of c (by omega),←hrx]at hn
   clear hrx h1 hcm hv;exact c88
  have h1I:¬r<128:=by omega
  by_cases h2:c<2048
  ·have h2I:r<2048:=by omega
   have he:=Hen.out;rw[if_neg h1,if_pos h2]at he;have hn:=NewB.lit w [UInt8.ofNat (192+c/64),UInt8.ofNat (128+c%64)] 2 5 rfl rfl (by decide)
   simp only[List.map_cons,List.map_nil]at hn;rw[u8v_of _ (by omega),u8v_of _ (by omega)]at hn
   have e1:((192+c/64:Nat):Int)=192+r/64:=by omega
   have e2:((128+c%64:Nat):Int)=128+r%64:=by omega
   rw[e1,e2]at hn;clear e1 e2 h1 h2 hv hrx hcm;exact c88
  have h2I:¬r<2048:=by omega
  by_cases h3:c<65536
  ·have h3I:r<65536:=by omega
   have he:=Hen.out;rw[if_neg h1,if_neg h2,if_pos h3]at he;have hn:=NewB.lit w [UInt8.ofNat (224+c/4096),UInt8.ofNat (128+c/64%64),UInt8.ofNat (128+c%64)] 3 5 rfl rfl (by decide)
   simp only[List.map_cons,List.map_nil]at hn;rw[u8v_of _ (by omega),u8v_of _ (by omega),u8v_of _ (by omega)]at hn
   have e1:((224+c/4096:Nat):Int)=224+r/4096:=by omega
   have e2:((128+c/64%64:Nat):Int)=128+r/64%64:=by omega
   have e3:((128+c%64:Nat):Int)=128+r%64:=by omega
   rw[e1,e2,e3]at hn;clear e1 e2 e3 h1 h2 h3 hv hrx hcm;exact c88
  ·have h3I:¬r<65536:=by omega
   have he:=Hen.out;rw[if_neg h1,if_neg h2,if_neg h3]at he;have hn:=NewB.lit w [UInt8.ofNat (240+c/262144),UInt8.ofNat (128+c/4096%64),UInt8.ofNat (128+c/64%64),UInt8.ofNat (128+c%64)] 4 5 rfl rfl (by decide)
   simp only[List.map_cons,List.map_nil]at hn;rw[u8v_of _ (by omega),u8v_of _ (by omega),u8v_of _ (by omega),u8v_of _ (by omega)]at hn
   have e0:((240+c/262144:Nat):Int)=240+r/262144:=by omega
   have e1:((128+c/4096%64:Nat):Int)=128+r/4096%64:=by omega
   have e2:((128+c/64%64:Nat):Int)=128+r/64%64:=by omega
   have e3:((128+c%64:Nat):Int)=128+r%64:=by omega
   rw[e0,e1,e2,e3]at hn;clear e0 e1 e2 e3 h1 h2 h3 hv hrx hcm;exact c88
 |false=>
  have hc3:c=65533:=by rw[Hc.out,hv,if_neg (by decide)]
  have he:=Hen.out;rw[hc3]at he;have hn:=NewB.lit w [239,191,189] 3 5 rfl rfl (by decide)
  have He:=hid he;have Hn:=hid hn;clear he hn;clear Hc Hx Hcx Hen hcm hc3
  go_wp2_with fail
  exact hR'.out _ _ ⟨_,rfl,by rw[He.out];exact Hn.out⟩
def byteI (s:ByteArray)(i:Nat):Int:=((s.get! i).toNat:Int)
theorem byteI_bnd (s:ByteArray)(i:Nat):0≤byteI s i∧byteI s i≤255:=by unfold byteI;have:=(s.get! i).toNat_lt;omega
theorem byteI_at (s:ByteArray)(i:Nat)(h:i<s.size):byteI s i=((s[i]).toNat:Int):=by
 obtain⟨d⟩:=s;unfold byteI;have:(⟨d⟩:ByteArray).get! i=d[i]! :=rfl;rw[this,getElem!_pos d i h];rfl
def atP (s:ByteArray)(i:Nat):Int×Int:=if byteI s i<128 then(byteI s i,1)else if(Utf8.decode s i).2=1 then(0,0)else((Utf8.decode s i).1,(Utf8.decode s i).2)
def leadK (b:Int):Int:=if b<192 then 0 else if b<224 then 2 else if b<240 then 3 else if b<248 then 4 else 0
def leadN (b:Int):Int:=if b<224 then b-192 else if b<240 then b-224 else b-240
def accN (s:ByteArray)(i:Nat):Nat→Int
 |0=>leadN (byteI s i)
 |j+1=>accN s i j*64+byteI s (i+(j+1))-128
def contB (s:ByteArray)(i j:Nat):Prop:=∀m,1≤m→m≤j→128≤byteI s (i+m)∧byteI s (i+m)≤191
theorem accN_bnd {s:ByteArray}{i:Nat}(hb:192≤byteI s i∧byteI s i<248):∀j,j≤3→contB s i j→0≤accN s i j∧accN s i j≤32*64^j-1
 |0,_,_=>by
  show 0≤leadN _∧leadN _≤_;unfold leadN
  repeat' split
  all_goals omega
 |j+1,hj,hc=>by
  obtain⟨h1,h2⟩:=accN_bnd hb j (by omega) (fun m a b=>hc m a (by omega))
  have h3:=hc (j+1) (by omega) (Nat.le_refl _)
  have e:(64:Int)^(j+1)=64^j*64:=Int.pow_succ _ _;show 0≤accN s i j*64+byteI s (i+(j+1))-128∧accN s i j*64+byteI s (i+(j+1))-128≤_;generalize (64:Int)^j=p at*
  omega
theorem encB_len {r:Int}(h:Utf8.valid r=true):(encB r).length=if r<128 then 1 else if r<2048 then 2 else if r<65536 then 3 else 4:=by
 have hv:=valid_max h;rw[encB_of r r.toNat (by rw[if_pos h])]
 by_cases h1:r<128
 ·rw[if_pos (by omega),if_pos h1];rfl
 rw[if_neg (by omega),if_neg h1]
 by_cases h2:r<2048
 ·rw[if_pos (by omega),if_pos h2];rfl
 rw[if_neg (by omega),if_neg h2]
 by_cases h3:r<65536
 ·rw[if_pos (by omega),if_pos h3];rfl
 rw[if_neg (by omega),if_neg h3];rfl
theorem atP_one (s:ByteArray)(i:Nat)(h:byteI s i<128):atP s i=(byteI s i,1):=by unfold atP;rw[if_pos h]
theorem decN (s:ByteArray)(i:Nat):∃b0 b1 b2 b3:Nat,byteI s i=b0∧byteI s (i+1)=b1∧byteI s (i+2)=b2∧byteI s (i+3)=b3∧Utf8.decode s i=Lib.decodeN (s.size-i) b0 b1 b2 b3:=
 ⟨_,_,_,_,rfl,rfl,rfl,rfl,Lib.decode_at s i⟩
theorem atP_none (s:ByteArray)(i:Nat)(hi:i<s.size)(h:128≤byteI s i)(hn:leadK (byteI s i)=0∨(s.size:Int)-i<leadK (byteI s i)∨∃m:Nat,1≤m∧(m:Int)<leadK (byteI s i)∧¬(128≤byteI s (i+m)∧byteI s (i+m)≤191)):atP s i=(0,0):=by
 obtain⟨b0,b1,b2,b3,e0,e1,e2,e3,hd⟩:=decN s i;have q0:=byteI_bnd s i;have q1:=byteI_bnd s (i+1);have q2:=byteI_bnd s (i+2);have q3:=byteI_bnd s (i+3);have hm:∀m:Nat,1≤m→m≤3→m=1∨m=2∨m=3:=fun m _ _=>by omega
 unfold atP;rw[if_neg (by omega)]
 have key:(Utf8.decode s i).2=1:=by
  rw[hd];rw[e0]at hn h q0;unfold leadK at hn;unfold Lib.decodeN;have hn2:(b0<192∨248≤b0)∨(192≤b0∧b0<224∧(s.size<i+2∨¬(128≤b1∧b1≤191)))∨(224≤b0∧b0<240∧(s.size<i+3∨¬(128≤b1∧b1≤191)∨¬(128≤b2∧b2≤191)))∨(240≤b0∧b0<248∧(s.size<i+4∨¬(128≤b1∧b1≤191)∨¬(128≤b2∧b2≤191)∨¬(128≤b3∧b3≤191))):=by
   rcases hn with hn|hn|⟨m,m1,m2,m3⟩
   ·repeat' split at hn
    all_goals omega
   ·repeat' split at hn
    all_goals omega
   ·have hm3:m≤3:=by
     repeat' split at m2
     all_goals omega
    rcases hm m m1 hm3 with rfl|rfl|rfl
    ·rw[e1]at m3
     repeat' split at m2
     all_goals omega
    ·rw[e2]at m3
     repeat' split at m2
     all_goals omega
    ·rw[e3]at m3
     repeat' split at m2
     all_goals omega
  clear hn hm;rw[if_neg (by omega)]
  split
  ·exfalso;omega
  split
  ·exfalso;omega
  split
  ·exfalso;omega
  rfl
 rw[if_pos key]
theorem accN1 (s:ByteArray)(i:Nat):accN s i 1=leadN (byteI s i)*64+byteI s (i+1)-128:=rfl
theorem accN2 (s:ByteArray)(i:Nat):accN s i 2=(leadN (byteI s i)*64+byteI s (i+1)-128)*64+byteI s (i+2)-128:=rfl
theorem accN3 (s:ByteArray)(i:Nat):accN s i 3=((leadN (byteI s i)*64+byteI s (i+1)-128)*64+byteI s (i+2)-128)*64+byteI s (i+3)-128:=rfl
theorem atP_some (s:ByteArray)(i j:Nat)(hi:i<s.size)(h:192≤byteI s i∧byteI s i<248)(hk:leadK (byteI s i)=(j:Int)+1)(hs:i+j<s.size)(hc:contB s i j):
  (Utf8.valid (accN s i j)=true∧(encB (accN s i j)).length=j+1→atP s i=(accN s i j,(j:Int)+1))∧(¬(Utf8.valid (accN s i j)=true∧(encB (accN s i j)).length=j+1)→atP s i=(0,0)):=by
 obtain⟨b0,b1,b2,b3,e0,e1,e2,e3,hd⟩:=decN s i;have q0:=byteI_bnd s i;have hlen:∀n:Int,0≤n→n≤2097151→(Utf8.valid n=true∧(encB n).length=j+1↔(n<55296∨(57344≤n∧n≤1114111))∧(if n<128 then 1 else if n<2048 then 2 else if n<65536 then 3 else 4)=j+1):=by
  intro n h0 h1
  constructor
  ·rintro⟨a,b⟩;rw[encB_len a]at b;refine⟨?_,b⟩;rw[valid_eq]at a;simp only[Bool.or_eq_true,Bool.and_eq_true,decide_eq_true_eq]at a
   omega
  ·rintro⟨a,b⟩;have hv:Utf8.valid n=true:=by
    rw[valid_eq];simp only[Bool.or_eq_true,Bool.and_eq_true,decide_eq_true_eq]
    omega
   exact⟨hv,by rw[encB_len hv];exact b⟩
 unfold atP;rw[if_neg (by omega),hd]
 rw[e0]at h hk;unfold leadK at hk;have hj:(192≤b0∧b0<224∧j=1)∨(224≤b0∧b0<240∧j=2)∨(240≤b0∧b0<248∧j=3):=by
  repeat' split at hk
  all_goals omega
 clear hk
 rcases hj with⟨g1,g2,rfl⟩|⟨g1,g2,rfl⟩|⟨g1,g2,rfl⟩
 ·have c1:=hc 1 (by omega) (by omega)
  rw[e1]at c1;have en:accN s i 1=((b0%32*64+b1%64:Nat):Int):=by rw[accN1,e0,e1];unfold leadN;rw[if_pos (by omega)];omega
  rw[en];have hl:=hlen ((b0%32*64+b1%64:Nat):Int) (by omega) (by omega)
  have hx:Lib.decodeN (s.size-i) b0 b1 b2 b3=if b0%32*64+b1%64≥128 then(b0%32*64+b1%64,2)else(65533,1):=by
   unfold Lib.decodeN;rw[if_neg (by omega),if_pos (by omega)]
  rw[hx]
  by_cases hg:b0%32*64+b1%64≥128
  ·rw[if_pos hg,if_neg (by simp)]
   refine⟨fun _=>rfl,fun hn=>?_⟩
   exfalso
   apply hn
   rw[hl,if_neg (by omega),if_pos (by omega)]
   exact⟨by omega,rfl⟩
  ·rw[if_neg hg,if_pos rfl];refine⟨fun hn=>?_,fun _=>rfl⟩
   exfalso
   rw[hl,if_pos (by omega)]at hn
   have:=hn.2
   omega
 ·have c1:=hc 1 (by omega) (by omega)
  have c2:=hc 2 (by omega) (by omega)
  rw[e1]at c1;rw[e2]at c2;have en:accN s i 2=((b0%16*4096+b1%64*64+b2%64:Nat):Int):=by rw[accN2,e0,e1,e2];unfold leadN;rw[if_neg (by omega),if_pos (by omega)];omega
  rw[en];have hl:=hlen ((b0%16*4096+b1%64*64+b2%64:Nat):Int) (by omega) (by omega)
  have hx:Lib.decodeN (s.size-i) b0 b1 b2 b3=if b0%16*4096+b1%64*64+b2%64≥2048∧(b0%16*4096+b1%64*64+b2%64<55296∨(57344≤b0%16*4096+b1%64*64+b2%64∧b0%16*4096+b1%64*64+b2%64≤1114111))then(b0%16*4096+b1%64*64+b2%64,3)else(65533,1):=by
   unfold Lib.decodeN;rw[if_neg (by omega),if_neg (by omega),if_pos (by omega)]
  rw[hx];have hcb:b0%16*4096+b1%64*64+b2%64≤65535:=by omega
  generalize b0%16*4096+b1%64*64+b2%64=c at*
  by_cases hg:c≥2048∧(c<55296∨(57344≤c∧c≤1114111))
  ·rw[if_pos hg,if_neg (by simp)]
   refine⟨fun _=>rfl,fun hn=>?_⟩
   exfalso
   apply hn
   rw[hl,if_neg (by omega),if_neg (by omega),if_pos (by omega)]
   exact⟨by omega,rfl⟩
  ·exact c139
 ·have c1:=hc 1 (by omega) (by omega)
  have c2:=hc 2 (by omega) (by omega)
  have c3:=hc 3 (by omega) (by omega)
  rw[e1]at c1;rw[e2]at c2;rw[e3]at c3;have en:accN s i 3=((b0%8*262144+b1%64*4096+b2%64*64+b3%64:Nat):Int):=by rw[accN3,e0,e1,e2,e3];unfold leadN;rw[if_neg (by omega),if_neg (by omega)];omega
  rw[en];have hl:=hlen ((b0%8*262144+b1%64*4096+b2%64*64+b3%64:Nat):Int) (by omega) (by omega)
  have hx:Lib.decodeN (s.size-i) b0 b1 b2 b3=if b0%8*262144+b1%64*4096+b2%64*64+b3%64≥65536∧(b0%8*262144+b1%64*4096+b2%64*64+b3%64<55296∨(57344≤b0%8*262144+b1%64*4096+b2%64*64+b3%64∧b0%8*262144+b1%64*4096+b2%64*64+b3%64≤1114111))then(b0%8*262144+b1%64*4096+b2%64*64+b3%64,4)else(65533,1):=by
   unfold Lib.decodeN;rw[if_neg (by omega),if_neg (by omega),if_neg (by omega),if_pos (by omega)]
  rw[hx];generalize b0%8*262144+b1%64*4096+b2%64*64+b3%64=c at*
  by_cases hg:c≥65536∧(c<55296∨(57344≤c∧c≤1114111))
  ·rw[if_pos hg,if_neg (by simp)]
   refine⟨fun _=>rfl,fun hn=>?_⟩
   exfalso
   apply hn
   rw[hl,if_neg (by omega),if_neg (by omega),if_neg (by omega)]
   exact⟨by omega,rfl⟩
  ·exact c139
set_option maxRecDepth 100000 in
set_option maxHeartbeats 4000000 in
theorem ref4_at (s:ByteArray)(hs:s.size≤17592186044416)(i:Nat)(hi:i<s.size)(w:World):Z 115 #[.string s,I (i:Int)] w fun e w'=>e= .returned (.tuple #[.int .i32 (atP s i).1,I (atP s i).2])∧Keeps (· <w.heap.size) w w':=by
 have hiI:(i:Int)<(s.size:Int):=by omega
 have hb:=byteI_bnd s i;have hba:=byteI_at s i hi;have h1P:=atP_one s i;have hnP:=atP_none s i hi;generalize hat:atP s i=at' at*;obtain⟨rr,rk⟩:=at';dsimp only;generalize hz:s[i].toNat=z at*;have H1P:=hid h1P;have HnP:=hid hnP;have Hat:=hid hat;clear h1P hnP hat;refine calls_hide fun R' hR'=>?_
 go_enter Tryz.func115,Tryz.ntmps115
 by_cases g1:z<128
 ·have g1I:(z:Int)<128:=by omega
  have he:=H1P.out (by omega)
  injection he with e1 e2
  rw[hba]at e1;subst e1 e2;exact c65
 have g1I:¬(z:Int)<128:=by omega
 by_cases g2:z<192∨248≤z
 ·have hk:leadK (byteI s i)=0:=by
   unfold leadK
   repeat' split
   all_goals omega
  have he:=HnP.out (by omega) (Or.inl hk)
  injection he with e1 e2
  subst e1 e2
  rcases g2 with g2|g2
  ·have g2I:¬192≤(z:Int):=by omega
   have g3I:¬224≤(z:Int):=by omega
   have g4I:¬240≤(z:Int):=by omega
   go_wp2_with fail
   exact hR'.out _ _ ⟨rfl,Keeps.refl _ _⟩
  ·have g2I:¬(z:Int)<224:=by omega
   have g3I:¬(z:Int)<240:=by omega
   have g4I:¬(z:Int)<248:=by omega
   have g5I:192≤(z:Int):=by omega
   have g6I:224≤(z:Int):=by omega
   have g7I:240≤(z:Int):=by omega
   go_wp2_with fail
   exact hR'.out _ _ ⟨rfl,Keeps.refl _ _⟩
 rcases(by omega:(192≤z∧z<224)∨(224≤z∧z<240)∨(240≤z∧z<248))with g3|g3|g3
 ·have a1:192≤(z:Int):=by omega
  have a2:(z:Int)<224:=by omega
  have a3:¬224≤(z:Int):=by omega
  have a4:¬240≤(z:Int):=by omega
  have hk:leadK (byteI s i)=2:=by
   unfold leadK
   repeat' split
   all_goals omega
  have hln:leadN (byteI s i)=(z:Int)-192:=by
   unfold leadN
   repeat' split
   all_goals omega
  have zz124:=PLift.up @c631;exact c630
 ·have a1:192≤(z:Int):=by omega
  have a2:¬(z:Int)<224:=by omega
  have a3:224≤(z:Int):=by omega
  have a5:(z:Int)<240:=by omega
  have a4:¬240≤(z:Int):=by omega
  have hk:leadK (byteI s i)=3:=by
   unfold leadK
   repeat' split
   all_goals omega
  have hln:leadN (byteI s i)=(z:Int)-224:=by
   unfold leadN
   repeat' split
   all_goals omega
  have zz124:=PLift.up @c632;exact c630
 ·have a1:192≤(z:Int):=by omega
  have a2:¬(z:Int)<224:=by omega
  have a3:224≤(z:Int):=by omega
  have a5:¬(z:Int)<240:=by omega
  have a4:240≤(z:Int):=by omega
  have a6:(z:Int)<248:=by omega
  have hk:leadK (byteI s i)=4:=by
   unfold leadK
   repeat' split
   all_goals omega
  have hln:leadN (byteI s i)=(z:Int)-240:=by
   unfold leadN
   repeat' split
   all_goals omega
  have zz124:=PLift.up @c633;exact c630
def gB (l:List UInt8)(i:Nat):Nat:=(l[i]?.getD 0).toNat
def dec0 (m:List UInt8):Nat×Nat:=Lib.decodeN m.length (gB m 0) (gB m 1) (gB m 2) (gB m 3)
theorem get_gB (s:ByteArray)(i:Nat):(s.get! i).toNat=gB s.data.toList i:=by
 obtain⟨d⟩:=s;unfold gB;show(d[i]!).toNat=_;rw[Array.getElem!_eq_getD,Array.getD_eq_getD_getElem?,Array.getElem?_toList]
 rfl
theorem bsize (s:ByteArray):s.data.toList.length=s.size:=Array.length_toList
theorem gB_drop (l:List UInt8)(i j:Nat):gB (l.drop i) j=gB l (i+j):=by unfold gB;rw[List.getElem?_drop]
theorem decode_dec0 (s:ByteArray)(p:Nat):Utf8.decode s p=dec0 (s.data.toList.drop p):=by
 rw[Lib.decode_at,get_gB,get_gB,get_gB,get_gB];unfold dec0;rw[gB_drop,gB_drop,gB_drop,gB_drop,List.length_drop]
 rfl
def runesU:Nat→List UInt8→List Int
 |0,_=>[]
 |_+1,[]=>[]
 |f+1,c::m=>((dec0 (c::m)).1:Int)::runesU f ((c::m).drop (dec0 (c::m)).2)
theorem runesF_U (s:ByteArray):∀f p,runesF s f p=runesU f (s.data.toList.drop p)
 |0,_=>rfl
 |f+1,p=>by
  rw[runesF_succ]
  by_cases h:p<s.size
  ·rw[if_pos h,runesF_U s f,decode_dec0];have hl:p<s.data.toList.length:=by simpa using h
   rw[List.drop_eq_getElem_cons hl];show _=_::runesU f _;rw[←List.drop_eq_getElem_cons hl,List.drop_drop]
  ·rw[if_neg h,List.drop_eq_nil_of_le (by have:s.data.toList.length=s.size:=bsize s;omega)]
   rfl
theorem dec0_pos (m:List UInt8):0<(dec0 m).2:=by
 unfold dec0 Lib.decodeN
 repeat' split
 all_goals simp
theorem runesU_more:∀(f:Nat) (m:List UInt8),m.length≤f→runesU (f+1) m=runesU f m
 |0,m,h=>by
  have:m=[]:=List.eq_nil_of_length_eq_zero (by omega)
  subst this;rfl
 |f+1,[],_=>rfl
 |f+1,c::m,h=>by
  have hd:=dec0_pos (c::m);show _::runesU (f+1) _=_::runesU f _;rw[runesU_more f _ (by rw[List.length_drop];omega)]
def runesB (m:List UInt8):List Int:=runesU m.length m
theorem runesU_any (f:Nat)(m:List UInt8)(h:m.length≤f):runesU f m=runesB m:=by
 obtain⟨g,rfl⟩:∃g,f=m.length+g:=⟨f-m.length,by omega⟩
 clear h
 induction g with
 |zero=>rfl
 |succ g ih=>rw[←Nat.add_assoc,runesU_more _ _ (by omega)];exact ih
theorem runesS_B (s:ByteArray):runesS s=runesB s.data.toList:=by
 unfold runesS;rw[runesF_U,List.drop_zero];exact runesU_any _ _ (by rw[bsize];exact Nat.le_refl _)
theorem runesB_cons (c:UInt8)(m:List UInt8):runesB (c::m)=((dec0 (c::m)).1:Int)::runesB ((c::m).drop (dec0 (c::m)).2):=by
 have hd:=dec0_pos (c::m);show _::runesU m.length _=_;rw[runesU_any _ _ (by rw[List.length_drop,List.length_cons];omega)]
section
variable {H:Type}{enc:TypeId×Value→H}{P:Program}{w:World}{base:Nat}{sp:Nat→Bool}{held:Bool}
theorem trod_parts {fuel:Nat}{t:TypeId}{fs:Array Field}{cs:List Value}{ds:List (DataW H)}{p:List MemPlace}(ht:P.underlying t=some (.struct fs))(h:DataW.trod enc P w base sp held fuel t cs=some (.agg ds,p)):
  cs.length=P.cellsOf t∧ds.length=fs.size∧∃fuel',∀(i:Nat) f d,fs.toList[i]? =some f→ds[i]? =some d→∃q,DataW.trod enc P w base sp held fuel' f.type ((cs.drop f.offset).take (P.cellsOf f.type))=some (d,q):=by
 cases fuel with
 |zero=>simp[DataW.trod]at h
 |succ fuel=>
  simp only[DataW.trod,ht]at h
  split at h
  ·rename_i hl
   obtain⟨xs,hm,hx⟩:=Option.map_eq_some_iff.1 h;have hxs:xs.map (·.1)=ds:=by have:=congrArg Prod.fst hx;simpa using this
   refine⟨hl,?_,fuel,fun i f d hf hd=>?_⟩
   ·rw[←hxs,List.length_map,Lib.mapM_length hm,Array.length_toList]
   ·obtain⟨b,hb,hfb⟩:=Lib.mapM_at hm i f hf;rw[←hxs,List.getElem?_map,hb]at hd;simp only[Option.map_some,Option.some.injEq]at hd;subst hd;exact⟨_,hfb⟩
  ·cases h
theorem cells_of_arr {α:Type}{f:α→DataW H}{g:α→List Value}{fuel:Nat}{t e:TypeId}{n m:Nat}{cs:List Value}{xs:List α}{p:List MemPlace}(ht:P.underlying t=some (.array n e))(hce:P.cellsOf e=m)(hct:P.cellsOf t=n*m)(hm0:0<m)
  (hel:∀fuel cs x p,DataW.trod enc P w base sp held fuel e cs=some (f x,p)→cs=g x) (hg:∀x,(g x).length=m)
  (h:DataW.trod enc P w base sp held fuel t cs=some (.agg (xs.map f),p)):cs=xs.flatMap g:=by
 cases fuel with
 |zero=>simp[DataW.trod]at h
 |succ fuel=>
  simp only[DataW.trod,ht,hce,hct]at h
  split at h
  ·rename_i hl
   obtain⟨ys,hm,hx⟩:=Option.map_eq_some_iff.1 h;have hxs:ys.map (·.1)=xs.map f:=by have:=congrArg Prod.fst hx;simpa using this
   have hxl:ys.length=n:=by simpa using Lib.mapM_length hm
   have hzl:xs.length=n:=by have:=congrArg List.length hxs;simp at this;omega
   have key:∀(i:Nat) x,xs[i]? =some x→(cs.drop (i*m)).take m=g x:=by
    intro i x hi;have hlt:=(List.getElem?_eq_some_iff.1 hi).1;obtain⟨b,hb,hf⟩:=Lib.mapM_at hm i i (by rw[List.getElem?_range (by omega)])
    have h2:(ys.map (·.1))[i]? =some (f x):=by rw[hxs,List.getElem?_map,hi];rfl
    rw[List.getElem?_map,hb]at h2;simp only[Option.map_some,Option.some.injEq]at h2;exact hel fuel _ x b.2 (by rw[hf,←h2])
   clear h hx hxs hm hxl hct ht;subst hzl
   induction xs generalizing cs with
   |nil=>simp at hl;simp[hl]
   |cons x xs ih=>
    have h0:=key 0 x rfl;rw[Nat.zero_mul,List.drop_zero]at h0;have h1:=ih (cs:=cs.drop m) (fun i y hy=>by
     have:=key (i+1) y hy;rw[Nat.succ_mul,Nat.add_comm,←List.drop_drop]at this;exact this) (by rw[List.length_drop,hl,List.length_cons,Nat.succ_mul];omega)
    rw[List.flatMap_cons,←h0,←h1,List.take_append_drop]
  ·cases h
end
section
variable {H:Type}{enc:TypeId×Value→H}{w:World}{base:Nat}{sp:Nat→Bool}{held:Bool}
set_option maxRecDepth 100000 in
theorem span_cells {fuel:Nat}{cs:List Value}{a:Int×Int}{p:List MemPlace}(h:DataW.trod enc Tryz.prog w base sp held fuel 193 cs=some (.agg [.lit (.int .i32 a.1),.lit (.int .i32 a.2)],p)):cs=[.int .i32 a.1,.int .i32 a.2]:=by
 obtain⟨hl,_,fuel',hp⟩:=trod_parts Tryz.underlying193 h;have hl:cs.length=2:=hl.trans (by kernel_rfl)
 match cs,hl with
 | [x,y],_=>
  obtain⟨_,h0⟩:=hp 0 _ _ rfl rfl;obtain⟨_,h1⟩:=hp 1 _ _ rfl rfl;obtain⟨z0,e0,d0,_⟩:=DataW.trod_int Tryz.underlying21 h0;obtain⟨z1,e1,d1,_⟩:=DataW.trod_int Tryz.underlying21 h1;simp only[Prod.mk.injEq,DataW.lit.injEq,Lit.int.injEq,true_and]at d0 d1;obtain⟨rfl,_⟩:=d0;obtain⟨rfl,_⟩:=d1;have e0:[x]=[Value.int .i32 a.1]:=e0;have e1:[y]=[Value.int .i32 a.2]:=e1
  injection e0 with e0
  injection e1 with e1
  rw[e0,e1]
set_option maxRecDepth 100000 in
theorem move_cells {fuel:Nat}{cs:List Value}{a:Int×Int×Int×Int}{p:List MemPlace}(h:DataW.trod enc Tryz.prog w base sp held fuel 197 cs=some (.agg [.agg [.lit (.int .i32 a.1),.lit (.int .i32 a.2.1)],.lit (.int .i64 a.2.2.1),.lit (.int .i32 a.2.2.2)],p)):cs=[.int .i32 a.1,.int .i32 a.2.1,.int .i64 a.2.2.1,.int .i32 a.2.2.2]:=by
 obtain⟨hl,_,fuel',hp⟩:=trod_parts Tryz.underlying197 h;have hl:cs.length=4:=hl.trans (by kernel_rfl)
 match cs,hl with
 | [x,y,z,u],_=>
  obtain⟨_,h0⟩:=hp 0 _ _ rfl rfl;obtain⟨_,h1⟩:=hp 1 _ _ rfl rfl;obtain⟨_,h2⟩:=hp 2 _ _ rfl rfl;have e0:=span_cells (a:=(a.1,a.2.1)) h0;obtain⟨z1,e1,d1,_⟩:=DataW.trod_int Tryz.underlying3 h1;obtain⟨z2,e2,d2,_⟩:=DataW.trod_int Tryz.underlying21 h2;simp only[Prod.mk.injEq,DataW.lit.injEq,Lit.int.injEq,true_and]at d1 d2;obtain⟨rfl,_⟩:=d1;obtain⟨rfl,_⟩:=d2;have e0:[x,y]=[Value.int .i32 a.1,Value.int .i32 a.2.1]:=e0
  have e1:[z]=[Value.int .i64 a.2.2.1]:=e1;have e2:[u]=[Value.int .i32 a.2.2.2]:=e2;simp only[List.cons.injEq,and_true]at e0 e1 e2;rw[e0.1,e0.2,e1,e2]
end
theorem var_rangeAt {P:Program}{W:World}{name:String}{g:Nat}{cs:Array Value}(hg:P.globalNamed name=some g)(h:W.var? P name=some cs):W.rangeAt g 0 cs.toList∧(0<cs.size→g<W.heap.size):=by
 constructor
 ·intro j v hv;have hj:=(List.getElem?_eq_some_iff.1 hv).1;have:=World.var?_cell hg h j;rw[Nat.zero_add,this]
  simpa using hv
 ·intro h0;have:=World.var?_cell hg h 0;rw[Array.getElem?_eq_getElem h0]at this
  apply Decidable.byContradiction
  intro hn
  simp[World.cell?,Array.getElem?_eq_none (by omega:W.heap.size≤g)]at this
theorem laid_mem {P:Program}{W:World}{n:String}{d:DataW Unit}:∀{l:List (String×DataW Unit)} {ps:List MemPlace},DataW.LaidVars P W l ps→(n,d)∈l→
  ∃g t cs fuel p,P.globalNamed n=some g∧(P.globals[g]?).map (·.type)=some t∧W.var? P n=some cs∧DataW.trod (fun _=>()) P W 0 (fun _=>true) false fuel t cs.toList=some (d,p)
 | [],_,_,hm=>by cases hm
 |(n',d')::r,ps,h,hm=>by
  obtain⟨g,t,cs,fuel,p,q,h1,h2,h3,h4,h5,_⟩:=h
  rcases List.mem_cons.1 hm with e|hm
  ·injection e with e1 e2
   subst e1 e2;exact⟨g,t,cs,fuel,p,h1,h2,h3,h4⟩
  ·exact laid_mem h5 hm
def spanD (a:Int×Int):DataW Unit:= .agg [.lit (.int .i32 a.1),.lit (.int .i32 a.2)]
def moveD (a:Int×Int×Int×Int):DataW Unit:= .agg [.agg [.lit (.int .i32 a.1),.lit (.int .i32 a.2.1)],.lit (.int .i64 a.2.2.1),.lit (.int .i32 a.2.2.2)]
set_option maxRecDepth 100000 in
theorem foldTab_of {W : World} {l : List (String × DataW Unit)} (h : laidMet Tryz.prog l W) (m1 : ("plover/fold.letters", Rows.laid_plover_fold_letters) ∈ l) (m2 : ("plover/fold.high", Rows.laid_plover_fold_high) ∈ l) (m3 : ("plover/fold.moves", Rows.laid_plover_fold_moves) ∈ l) : FoldTab W := by
 obtain ⟨ps, hv, _⟩ := h;obtain ⟨g1, t1, cs1, fu1, p1, a1, b1, c1, d1⟩ := laid_mem hv m1;obtain ⟨g2, t2, cs2, fu2, p2, a2, b2, c2, d2⟩ := laid_mem hv m2;obtain ⟨g3, t3, cs3, fu3, p3, a3, b3, c3, d3⟩ := laid_mem hv m3;obtain rfl : 2 = g1 := Option.some.inj ((show Tryz.prog.globalNamed "plover/fold.letters" = some 2 by kernel_rfl).symm.trans a1)
 obtain rfl : 1 = g2 := Option.some.inj ((show Tryz.prog.globalNamed "plover/fold.high" = some 1 by kernel_rfl).symm.trans a2)
 obtain rfl : 3 = g3 := Option.some.inj ((show Tryz.prog.globalNamed "plover/fold.moves" = some 3 by kernel_rfl).symm.trans a3)
 obtain rfl:195=t1:=Option.some.inj ((show(Tryz.prog.globals[2]?).map (·.type)=some 195 by kernel_rfl).symm.trans b1)
 obtain rfl:194=t2:=Option.some.inj ((show(Tryz.prog.globals[1]?).map (·.type)=some 194 by kernel_rfl).symm.trans b2)
 obtain rfl:198=t3:=Option.some.inj ((show(Tryz.prog.globals[3]?).map (·.type)=some 198 by kernel_rfl).symm.trans b3)
 have e1:cs1.toList=spanC lettersP:=cells_of_arr (f:=spanD) (g:=fun p:Int×Int=>[.int .i32 p.1,.int .i32 p.2]) (xs:=lettersP) Tryz.underlying195 (m:=2) (by kernel_rfl) (by kernel_rfl) (by decide) (fun _ _ x _ hx=>span_cells (a:=x) hx) (fun _=>rfl) d1
 have e2:cs2.toList=spanC highP:=cells_of_arr (f:=spanD) (g:=fun p:Int×Int=>[.int .i32 p.1,.int .i32 p.2]) (xs:=highP) Tryz.underlying194 (m:=2) (by kernel_rfl) (by kernel_rfl) (by decide) (fun _ _ x _ hx=>span_cells (a:=x) hx) (fun _=>rfl) d2
 have e3:cs3.toList=moveC movesP:=cells_of_arr (f:=moveD) (g:=fun p:Int×Int×Int×Int=>[.int .i32 p.1,.int .i32 p.2.1,.int .i64 p.2.2.1,.int .i32 p.2.2.2]) (xs:=movesP) Tryz.underlying198 (m:=4) (by kernel_rfl) (by kernel_rfl) (by decide) (fun _ _ x _ hx=>move_cells (a:=x) hx) (fun _=>rfl) d3
 obtain⟨r1,s1⟩:=var_rangeAt a1 c1;obtain⟨r2,s2⟩:=var_rangeAt a2 c2;obtain⟨r3,s3⟩:=var_rangeAt a3 c3;rw[e1]at r1;rw[e2]at r2;rw[e3]at r3;have n1:0<cs1.size:=by rw[←Array.length_toList,e1];decide
 have n2:0<cs2.size:=by rw[←Array.length_toList,e2];decide
 have n3:0<cs3.size:=by rw[←Array.length_toList,e3];decide
 exact⟨r2,r1,r3,s2 n2,s1 n1,s3 n3⟩
def layO (xs:Array Value):Obj→Obj
 | .cells _ t frozen=> .cells xs t frozen
 |o=>o
noncomputable def laidWorld (os:Os):World:=
 { World.holding Tryz.prog os ⟨#[],#[],[]⟩with heap:=(((World.holding Tryz.prog os ⟨#[],#[],[]⟩).heap.modify 1 (layO (spanC highP).toArray)).modify 2 (layO (spanC lettersP).toArray)).modify 3 (layO (moveC movesP).toArray) }
theorem RM.init {w1 w2:World}{K:Nat→Prop}{m c:Nat}{μ:MemS}{σ:RunS}(hm:MemAt w1 m c μ)(hr:RunAt w2 w1.heap.size m (.slice none 0 0) σ)
  (hk:Keeps (· <w1.heap.size) w1 w2) (hK:∀b,K b→b<w1.heap.size∧b≠m∧b≠c):RM w2 K w1.heap.size m c ⟨σ,μ⟩:=by
 have h1:=hm.obj.lt;have h2:=hm.cells.lt;exact⟨⟨_,hr,fun k hk=>by cases hk⟩,hm.keep hk h1 h2,by omega,by omega,fun h=>by have:=(hK _ h).1;omega,fun h=>(hK _ h).2.1 rfl,fun h=>(hK _ h).2.2 rfl,
  fun b hb=>by have:=(hK b hb).1;have:=hk.size;omega⟩
def run0:RunS:=⟨[],0,false,false,false,false,0⟩
def Small (x:Int):Prop:= -1099511627776≤x∧x≤1099511627776
def layT (b d id ln born:Int):Tree Unit:= .store (b+4*d+1) id (.store (b+4*d+2) ln (.store (b+4*d+0) born (.ret ())))
def killT (b d v:Int):Tree Unit:= .store (b+4*d+3) v (.ret ())
def findT (b id:Int):Nat→Nat→Tree Int
 |0,_=> .ret (-1)
 |n+1,d=> .load (b+4*d+1) fun x=> .off fun o=>if o=true then .ret (-1)else if x=id then .ret d else findT b id n (d+1)
set_option maxHeartbeats 400000 in
theorem table_lay {w:World}{K:Nat→Prop}{r m c:Nat}{s:St}(h:RM w K r m c s)(b d id ln born:Int)(hb:Small b)(hd:Small d)(hi:U32 id)(hl:U32 ln)(hn:U32 born):
  Z 56 #[.pointer (some ⟨r,0,none⟩),I b,I d,J id,J ln,J born] w fun e w'=>
   e= .returned (.tuple #[])∧RM w' K r m c ((layT b d id ln born).exec s).2∧Keeps K w w':=by
 obtain⟨b0,b1⟩:=hb;obtain⟨d0,d1⟩:=hd;have H:=hid h;clear h;refine calls_hide fun R' hR'=>?_
 go_enter Tryz.func56,Tryz.ntmps56
 go_wp2_with fail
 refine(step_store H.out _ id hi).mono ?_;rintro e w1 ⟨rfl,hr1,hk1⟩;have H1:=hid hr1;have HK1:=hid hk1;clear hr1 hk1
 go_wp2_with fail
 refine(step_store H1.out _ ln hl).mono ?_;rintro e w2 ⟨rfl,hr2,hk2⟩;have H2:=hid hr2;have HK2:=hid (HK1.out.trans hk2);clear hr2 hk2
 go_wp2_with fail
 refine(step_store H2.out _ born hn).mono ?_;rintro e w3 ⟨rfl,hr3,hk3⟩;have H3:=hid hr3;have HK3:=hid (HK2.out.trans hk3);clear hr3 hk3
 go_wp2_with fail
 go_end0
 refine hR'.out _ _ ⟨rfl,?_,HK3.out⟩
 first|exact H3.out|(show RM w3 K r m c (((s.store (b+4*d+1) id).store (b+4*d+2) ln).store (b+4*d+0) born);rw[Int.add_zero];exact H3.out)
set_option maxHeartbeats 400000 in
theorem table_kill {w:World}{K:Nat→Prop}{r m c:Nat}{s:St}(h:RM w K r m c s)(b d v:Int)(hb:Small b)(hd:Small d)(hv:U32 v):
  Z 48 #[.pointer (some ⟨r,0,none⟩),I b,I d,J v] w fun e w'=>
   e= .returned (.tuple #[])∧RM w' K r m c ((killT b d v).exec s).2∧Keeps K w w':=by
 obtain⟨b0,b1⟩:=hb;obtain⟨d0,d1⟩:=hd;have H:=hid h;clear h;refine calls_hide fun R' hR'=>?_
 go_enter Tryz.func48,Tryz.ntmps48
 go_wp2_with fail
 refine(step_store H.out _ v hv).mono ?_;rintro e w1 ⟨rfl,hr1,hk1⟩;have H1:=hid hr1;have HK1:=hid hk1;clear hr1 hk1
 go_wp2_with fail
 go_end0
 exact hR'.out _ _ ⟨rfl,H1.out,HK1.out⟩
theorem findT_step (b id:Int)(n d:Nat)(s:St):(findT b id (n+1) d).exec s=
  (if(s.load (b+4*d+1)).2.isOff=true then Tree.ret (-1)else if(s.load (b+4*d+1)).1=id then .ret (d:Int)else findT b id n (d+1)).exec (s.load (b+4*d+1)).2:=rfl
set_option maxHeartbeats 1000000 in
theorem table_find {w:World}{K:Nat→Prop}{r m c:Nat}{s:St}(h:RM w K r m c s)(b id:Int)(n:Nat)(hb:Small b)(hn:n≤1099511627776)(hi:U32 id):
  Z 69 #[.pointer (some ⟨r,0,none⟩),I b,I n,J id] w fun e w'=>
   e= .returned (I ((findT b id n 0).exec s).1)∧RM w' K r m c ((findT b id n 0).exec s).2∧Keeps K w w':=by
 obtain⟨b0,b1⟩:=hb;obtain⟨i0,i1⟩:=hi;have H:=hid h;clear h;generalize hres:(findT b id n 0).exec s=res;have HRes:=hid hres;clear hres;refine calls_hide fun R' hR'=>?_
 go_enter Tryz.func69,Tryz.ntmps69
 go_wp2_with fail
 go_loopw[12] (fun i wr=>∃(k:Nat) (s':St),i=I k∧k≤n∧RM wr K r m c s'∧Keeps K w wr∧(findT b id (n-k) k).exec s'=res) (fun i _=>n-(intOf i).toNat)
 case atStart=>exact⟨0,s,rfl,Nat.zero_le _,H.out,Keeps.refl _ _,HRes.out⟩
 case round=>
  obtain⟨k,s',rfl,hk,hR,hK,hex⟩:=hrel;have HR:=hid hR;have HK:=hid hK;clear hR hK
  by_cases hlt:k<n
  ·have e:n-k=(n-(k+1))+1:=by omega
   rw[e,findT_step]at hex;have HEX:=hid hex;clear hex e
   go_wp2_with fail
   refine(step_load HR.out _).mono ?_;rintro e w1 ⟨rfl,hr1,hk1⟩;have HU:=hid (HR.out.load_u32 (b+4*(k:Int)+1));have HE2:=HEX.out;generalize s'.load (b+4*(k:Int)+1)=ls at*;obtain⟨x,s1⟩:=ls;simp only at hr1 HU HE2;have HR1:=hid hr1;have HK1:=hid (HK.out.trans hk1);have HX:=hid HE2;clear hr1 hk1 HE2
   go_wp2_with fail
   refine(step_off HR1.out).mono ?_;rintro e w2 ⟨rfl,rfl⟩;have hx:=HX.out
   cases ho:s1.isOff
   ·rw[ho,if_neg (by decide)]at hx
    by_cases hxi:x=id
    ·rw[if_pos hxi]at hx;have HY:=hid hx;clear hx;subst hxi
     go_wp2_with fail
     exact hR'.out _ _ ⟨by rw[←HY.out];rfl,by rw[←HY.out];exact HR1.out,HK1.out⟩
    ·rw[if_neg hxi]at hx;have HY:=hid hx;have hb:(x==id)=false:=by simpa using hxi
     clear hx hxi
     go_wp2_with fail
     go_roundw
     case rel=>exact⟨k+1,s1,by go_num,by omega,HR1.out,HK1.out,HY.out⟩
     case measure=>simp[intOf];omega
   ·rw[ho,if_pos rfl]at hx;have HY:=hid hx;clear hx
    go_wp2_with fail
    exact hR'.out _ _ ⟨by rw[←HY.out];rfl,by rw[←HY.out];exact HR1.out,HK1.out⟩
  ·have hkn:n-k=0:=by omega
   rw[hkn]at hex;have HY:=hid hex;clear hex hkn
   go_wp2_with fail
   exact hR'.out _ _ ⟨by rw[←HY.out];rfl,by rw[←HY.out];exact HR.out,HK.out⟩
theorem RM.append {w w1:World}{K:Nat→Prop}{v v':Value}{r m c:Nat}{s:St}(h:RM w (fun b=>K b∨v.ownBlock=some b) r m c s)(hg:w.grownBy w1 v.ownBlock)
  (hf:v'.ownBlock=v.ownBlock∨∃b,v'.ownBlock=some b∧w.heap.size≤b) (hlt:∀b,v'.ownBlock=some b→b<w1.heap.size):
  RM w1 (fun b=>K b∨v'.ownBlock=some b) r m c s:=by
 have hl:=h.lts;have hk:Keeps (fun b=>b<w.heap.size∧some b≠v.ownBlock) w w1:=⟨hg.os,hg.tape,hg.output,hg.size,fun b hb=>hg.block b hb.1 hb.2⟩;have h1:=h.keep _ hk (fun b hb hn=>⟨hb,fun e=>hn (Or.inr e.symm)⟩);obtain⟨g,hr,ho⟩:=h1.run;obtain⟨g0,hr0,ho0⟩:=h.run;have e:g=g0:=by
  have a:=hr.obj.inj (hr0.obj.keep hk ⟨hl.1,fun e=>h.kr (Or.inr e.symm)⟩);simp only[List.cons.injEq]at a;exact a.2.1
 subst e;have key:∀b,b<w.heap.size→¬(K b∨v.ownBlock=some b)→¬(K b∨v'.ownBlock=some b):=by
  rintro b hb hn (e|e)
  ·exact hn (Or.inl e)
  ·rcases hf with h2|⟨b',h2,h3⟩
   ·exact hn (Or.inr (h2▸e))
   ·rw[h2]at e;injection e with e;omega
 refine⟨⟨g,hr,fun k hk'=>⟨(ho k hk').1,(ho k hk').2.1,(ho k hk').2.2.1,key k (own_ne hr0.log k hk') (ho k hk').2.2.2⟩⟩,h1.mem,h.rm,h.rc,key _ hl.1 h.kr,key _ hl.2.1 h.km,key _ hl.2.2 h.kc,?_⟩;rintro b (e|e)
 ·have:=h.lt b (Or.inl e);have:=hk.size;omega
 ·exact hlt b e
theorem keeps_append {w w1:World}{K:Nat→Prop}{v:Value}(hK:∀b,K b→b<w.heap.size)(hn:∀b,v.ownBlock=some b→¬K b)(hg:w.grownBy w1 v.ownBlock):Keeps K w w1:=
 ⟨hg.os,hg.tape,hg.output,hg.size,fun b hb=>hg.block b (hK b hb) (fun e=>hn b e.symm hb)⟩
end Go.Proofs.YtogdknnkhkjmcaaGreatDoor
namespace Go.Proofs.YtogdknnkhkjmcaaGreatDoor
set_option linter.all false
section
variable {P:Program}{S Su:World→Prop}{md:Region.Mode}{Q:Exit→Act→World→Prop}
def headC (md:Region.Mode)(l:List Oper)(n:Nat)(pre:List Nat):Bool:=
 decide (n<l.length)&&((List.range l.length).all fun t=>decide (t≤n)||(List.range l.length).any fun j=>decide (n≤j)&&Region.waitsFor md l.toArray t j)&&
 ((List.range n).all fun i=>pre.contains i||(List.range (n+1)).any fun j=>decide (i<j)&&Region.waitsFor md l.toArray j i)&&
 ((List.range n).all fun i=>match l[i]? with
  |some o=>(o.after.all fun e=> !Region.binds md e||decide (e.on<i))&&(match o.guard with|some (j,_)=>decide (j<n)|none=>true)
  |none=>true)
theorem waits_headC {l:List Oper}{n:Nat}{pre:List Nat}{listed:Array Bool}(hB:headC md l n pre=true)(inv:HeadInv md l.toArray n listed)(hpre:∀i∈pre,listed.getD i false=true):
  ∀(d i:Nat),n-i=d→i<n→listed.getD i true=false→∀t,n≤t→t∉Region.ready md l.toArray listed:=by
 simp only[headC,Bool.and_eq_true,decide_eq_true_eq]at hB;obtain⟨⟨⟨hn,hc⟩,hs⟩,_⟩:=hB;intro d
 induction d using Nat.strongRecOn with
 |_ d ih=>
  intro i hd hi hun t ht hr;obtain⟨_,ot,hot,hall⟩:=mem_ready.1 hr;have htlt:t<l.toArray.size:=(Array.getElem?_eq_some_iff.1 hot).1
  by_cases htn:t=n
  ·exact c46
  ·have h1:=List.all_eq_true.1 hc t (List.mem_range.2 (by simpa using htlt))
   simp only[Bool.or_eq_true,decide_eq_true_eq]at h1
   rcases h1 with h1|h1
   ·omega
   ·obtain⟨j,hj,hj2⟩:=List.any_eq_true.1 h1;simp only[Bool.and_eq_true,decide_eq_true_eq]at hj2;have hjl:=List.mem_range.1 hj;obtain⟨o',ho',e,he,hb,hon⟩:=Region.waitsFor_spec hj2.2;obtain rfl:o'=ot:=Option.some.inj (ho'.symm.trans hot);have h2:=hall e he hb;rw[hon,getD_both (inv.tail j hj2.1 (by simpa using hjl))]at h2
    cases h2
theorem headC_anyH {l:List Oper}{n:Nat}{pre:List Nat}(hB:headC md l n pre=true)(hSS:∀w,S w→Su w):
  ∀(f:Nat) (L listed:Array Bool) (a:Act) (w:World),HeadInv md l.toArray n listed→(∀i∈pre,listed.getD i false=true)→L.size=n→(∀i,i<n→listed.getD i true=L.getD i true)→
   wpAnyH P md (l.take n).toArray (Behind (wpAnyH P md l.toArray Q Su (l.length-n) (Array.replicate n true++Array.replicate (l.length-n) false)) Q) S f L a w→wpAnyH P md l.toArray Q Su (f+(l.length-n)) listed a w:=by
 have hB':=hB;simp only[headC,Bool.and_eq_true,decide_eq_true_eq]at hB;have zz21:=PLift.up @c216;exact c214
theorem wpAnyH_headC {l:List Oper}{a:Act}{w:World}{listed:Array Bool}(n f:Nat)(pre:List Nat)(L:Array Bool)(hB:headC md l n pre=true)(hP:preB md l n pre listed=true)(hL:(decide (L.size=n)&&(List.range n).all fun i=>listed.getD i true==L.getD i true)=true)(hSS:∀w,S w→Su w)
  (h:wpAnyH P md (l.take n).toArray (Behind (wpAnyH P md l.toArray Q Su (l.length-n) (Array.replicate n true++Array.replicate (l.length-n) false)) Q) S f L a w):wpAnyH P md l.toArray Q Su (f+(l.length-n)) listed a w:=by
 simp only[preB,Bool.and_eq_true,decide_eq_true_eq]at hP;obtain⟨⟨⟨p1,p2⟩,p3⟩,p4⟩:=hP;simp only[Bool.and_eq_true,decide_eq_true_eq]at hL;refine headC_anyH hB hSS f L listed a w ⟨by rw[p1];simp,fun j oj hj hl e he hb=>?_,fun t ht ht'=>?_⟩ (fun i hi=>List.all_eq_true.1 p4 i hi) hL.1 (fun i hi=>?_) h
 ·exact c100
 ·exact c135
 ·have h1:=List.all_eq_true.1 hL.2 i (List.mem_range.2 hi)
  simpa using h1
end
end Go.Proofs.YtogdknnkhkjmcaaGreatDoor
namespace Go.Proofs.YtogdknnkhkjmcaaGreatDoor
open Go.RowKit
set_option linter.all false
def Tree.wr {α:Type}:Tree α→List Int→Nat
 | .ret _,_=>0
 | .load a k,cs=>(k (cs.getD a.toNat 0)).wr cs
 | .store a v k,cs=>1+k.wr (cs.set a.toNat v)
 | .off k,cs=>(k false).wr cs
theorem Tree.wr_norm {α:Type}(t:Tree α)(cs:List Int):t.norm.wr cs=t.wr cs:=by
 exact c101
theorem ideal_step2 {α:Type}{t rest:Tree α}{s:St}{x:α}{cs':List Int}{n:Nat}(h:Way t s rest)(hi:rest.ideal s.m.cells=some (x,cs',n)):
  (n≤1∧(s.step t).2.r.over=true∧(s.step t).2.r.err=0∧(s.step t).2.m.cells=cs'∧(s.step t).2.r.log.length=s.r.log.length+n∧(s.step t).1=x∧(rest.wr s.m.cells=0→(s.step t).2.m.stores=s.m.stores))∨
  (1<n∧(s.step t).2.r.over=false∧∃rest',Way t (s.step t).2 rest'∧rest'.ideal (s.step t).2.m.cells=some (x,cs',n-1)∧(s.step t).2.r.log.length=s.r.log.length+1∧(rest.wr s.m.cells=0→rest'.wr (s.step t).2.m.cells=0∧(s.step t).2.m.stores=s.m.stores)):=by
 have hn:rest.norm=rest:=by rw[←h.rest];exact t.peel_norm _
 rcases rest.norm_cases hn with⟨y,e⟩|⟨a,k,e⟩|⟨a,v,k,e⟩
 ·subst e;injection hi with hi;injection hi with h1 h2;injection h2 with h2 h3
  subst h1 h2 h3;rw[way_end h];exact Or.inl ⟨by omega,rfl,rfl,rfl,rfl,rfl,fun _=>rfl⟩
 ·subst e;unfold Tree.ideal at hi
  split at hi
  ·rename_i hin
   have hb:s.m.inb a=true:=(inb_iff _ _).2 hin;have hv:s.m.cells.getD a.toNat 0=s.m.at a:=rfl;rw[hv]at hi;obtain⟨y,hy,hy2⟩:=Option.map_eq_some_iff.1 hi;injection hy2 with h1 h2;injection h2 with h2 h3
   obtain⟨w1,w2⟩:=way_load h hb;have hc:(s.step t).2.m.cells=s.m.cells:=by rw[w1];simp[MemS.load,hb]
   have hst:(s.step t).2.m.stores=s.m.stores:=by rw[w1];simp[MemS.load,hb]
   have hl:(s.step t).2.r.log.length=s.r.log.length+1:=by rw[w1];simp
   have hwr:(Tree.load a k).wr s.m.cells=(k (s.m.at a)).wr s.m.cells:=rfl
   cases hr:(k (s.m.at a)).norm.isRet
   ·refine Or.inr ⟨?_,by rw[w1];exact hr,_,way_next_load h hb hr,?_,hl,fun h0=>⟨?_,hst⟩⟩
    ·have:y.2.2≠0:=by
      intro h0;have:=(Tree.ideal_norm (k (s.m.at a)) s.m.cells).trans hy
      rcases Tree.norm_cases _ (Tree.norm_norm (k (s.m.at a)))with⟨z,e⟩|⟨b,k',e⟩|⟨b,v',k',e⟩
      ·rw[e]at hr;cases hr
      ·exact c70
      ·exact c70
     omega
    ·rw[hc,Tree.ideal_norm,hy];obtain⟨y1,y2,y3⟩:=y;simp only at h1 h2 h3;subst h1 h2 h3
     rfl
    ·rw[hc,Tree.wr_norm,←hwr];exact h0
   ·obtain⟨z1,z2,z3⟩:=Tree.ideal_ret (x:=y.1) (cs':=y.2.1) (n:=y.2.2) hy hr;refine Or.inl ⟨by omega,by rw[w1];exact hr,by rw[w1],by rw[hc,←h2,z2],by rw[hl];omega,?_,fun _=>hst⟩
    rw[w2 _ z1,h1]
  ·cases hi
 ·subst e;unfold Tree.ideal at hi
  split at hi
  ·rename_i hin
   have hb:s.m.inb a=true:=(inb_iff _ _).2 hin;obtain⟨y,hy,hy2⟩:=Option.map_eq_some_iff.1 hi;injection hy2 with h1 h2;injection h2 with h2 h3
   obtain⟨w1,w2⟩:=way_store h hb;have hc:(s.step t).2.m.cells=s.m.cells.set a.toNat v:=by rw[w1];simp[MemS.store,hb]
   have hl:(s.step t).2.r.log.length=s.r.log.length+1:=by rw[w1];simp
   have hwr:(Tree.store a v k).wr s.m.cells≠0:=by
    show 1+_≠0
    omega
   cases hr:k.norm.isRet
   ·refine Or.inr ⟨?_,by rw[w1];exact hr,_,way_next_store h hb hr,?_,hl,fun h0=>absurd h0 hwr⟩
    ·have:y.2.2≠0:=by
      intro h0;have:=(Tree.ideal_norm k (s.m.cells.set a.toNat v)).trans hy
      rcases Tree.norm_cases _ (Tree.norm_norm k)with⟨z,e⟩|⟨b,k',e⟩|⟨b,v',k',e⟩
      ·rw[e]at hr;cases hr
      ·exact c70
      ·exact c70
     omega
    ·rw[hc,Tree.ideal_norm,hy];obtain⟨y1,y2,y3⟩:=y;simp only at h1 h2 h3;subst h1 h2 h3
     rfl
   ·obtain⟨z1,z2,z3⟩:=Tree.ideal_ret (x:=y.1) (cs':=y.2.1) (n:=y.2.2) hy hr;refine Or.inl ⟨by omega,by rw[w1];exact hr,by rw[w1],by rw[hc,←h2,z2],by rw[hl];omega,?_,fun h0=>absurd h0 hwr⟩
    rw[w2 _ z1,h1]
  ·cases hi
end Go.Proofs.YtogdknnkhkjmcaaGreatDoor
