/- Lemmas on the programs that the statement reaches. -/
import Derived.Test.YtogdknnkhkjmcaaGreatDoorKOpenB
namespace Go.Proofs.YtogdknnkhkjmcaaGreatDoor
open Go.RowKit
set_option linter.all false
theorem pw_cases (r:Nat)(h:r<4):pw r=2^(8*r):=by
 rcases(by omega:r=0∨r=1∨r=2∨r=3)with rfl|rfl|rfl|rfl<;>rfl
theorem or_add (x y:Int)(r:Nat)(hr:r<4)(hx0:0≤x)(hx:x<pw r)(hy0:0≤y)(hy:y≤255):((BitVec.ofInt 32 x|||BitVec.ofInt 32 (y*pw r)).toNat:Int)=x+y*pw r:=by
 obtain⟨x,rfl⟩:=Int.eq_ofNat_of_zero_le hx0;obtain⟨y,rfl⟩:=Int.eq_ofNat_of_zero_le hy0;have hp:pw r=((2^(8*r):Nat):Int):=by rw[pw_cases r hr];simp
 have h24:2^(8*r)≤2^24:=Nat.pow_le_pow_right (by decide) (by omega)
 rw[hp]at hx ⊢;have hyr:y*2^(8*r)≤255*2^24:=Nat.mul_le_mul (by omega) h24
 have hx':x<2^(8*r):=by omega
 rw[BitVec.toNat_or];have e1:(BitVec.ofInt 32 (x:Int)).toNat=x:=by
  rw[BitVec.toNat_ofInt];omega
 have e2:(BitVec.ofInt 32 ((y:Int)*((2^(8*r):Nat):Int))).toNat=y*2^(8*r):=by
  rw[BitVec.toNat_ofInt,←Int.natCast_mul];generalize y*2^(8*r)=z at*
  omega
 rw[e1,e2,Nat.or_comm,←Nat.shiftLeft_eq,←Nat.shiftLeft_add_eq_or_of_lt hx' y,Nat.shiftLeft_eq,Nat.add_comm]
 omega
theorem bits_or (x y:Int)(r:Nat)(hr:r<4)(hx0:0≤x)(hx:x<pw r)(hy0:0≤y)(hy:y≤255):
  bits .or .u32 x (y*pw r)=x+y*pw r:=by
 have h:=or_add x y r hr hx0 hx hy0 hy;have hle:0≤x+y*pw r∧x+y*pw r≤4294967295:=by
  rcases(by omega:r=0∨r=1∨r=2∨r=3)with rfl|rfl|rfl|rfl<;>(unfold pw at hx ⊢;simp at hx ⊢;omega)
 show IntKind.u32.wrap ((BitVec.ofInt 32 x|||BitVec.ofInt 32 (y*pw r)).toNat:Int)=_
 rw[h,IntWalk.u32_in _ hle]
theorem run_shl (P:Program)(x:Int)(k:Nat)(hx:0≤x∧x≤255)(w:World):
  (Op.shift .shl .u32 (IntKind.u32.wrap x) .i64 (IntKind.i64.wrap (8*(k:Int).tmod 4))).run P w= .ok (J (x*pw (k%4))) w:=by
 have hm:(k:Int).tmod 4=((k%4:Nat):Int):=by rw[Int.tmod_eq_emod_of_nonneg (by omega)];omega
 have hr:k%4<4:=by omega
 rw[hm,IntWalk.u32_in x (by omega),IntWalk.i64_in _ (by omega)]
 generalize k%4=r at*;have hle:0≤x*pw r∧x*pw r≤4294967295:=by
  rcases(by omega:r=0∨r=1∨r=2∨r=3)with rfl|rfl|rfl|rfl<;>(unfold pw;simp;omega)
 unfold Op.shift;rw[if_neg (by omega)]
 have hmin:min (8*(r:Int)).toNat IntKind.u32.bits=8*r:=by
  have:IntKind.u32.bits=32:=rfl
  omega
 rw[hmin];show Sem.run P (pure (J (IntKind.u32.wrap (x*2^(8*r))))) w=_;rw[←pw_cases r hr,IntWalk.u32_in _ hle];rfl
set_option maxRecDepth 100000 in
set_option maxHeartbeats 1000000 in
theorem pack_cells (t:ByteArray)(ht:t.size≤140737488351232)(w:World):
  Z 77 #[.string t] w fun e w'=>e= .returned (.slice (some ⟨w.heap.size,0,none⟩) ((t.size+3)/4:Nat) ((t.size+3)/4:Nat))∧
   Blk w' w.heap.size ((packC (bsL t)).map (Value.int .u32))∧Keeps (· <w.heap.size) w w':=by
 have hmk:=fun w=>run_make_row' (P:=Tryz.prog) 47 32 (J 0) 4 Tryz.underlying47 Tryz.infoU rfl .i64 .i64 ((t.size+3)/4) (by omega) (by omega) w
 rw[show(((t.size+3)/4:Nat):Int)=((t.size:Int)+3)/4 by omega]at hmk
 refine calls_hide fun R' hR'=>?_
 go_enter Tryz.func77,Tryz.ntmps77
 go_wp2_with fail
 have hb0:=made_blk w (J 0) ((t.size+3)/4) 32;have hk0:Keeps (· <w.heap.size) w (w.alloc (.cells (madeCells #[J 0] ((t.size+3)/4)) 32)):=(Keeps.refl _ _).alloc (fun b hb=>hb) _;generalize hw0:w.alloc (.cells (madeCells #[J 0] ((t.size+3)/4)) 32)=w0 at*;generalize hb:w.heap.size=b at*;have Hb0:=hid hb0;have Hk0:=hid hk0;have Hw0:=hid hw0;have Hb:=hid hb;clear hb0 hk0 hw0 hb
 clear hmk
 go_loopw[12] (fun i wr=>∃k:Nat,i=I k∧k≤t.size∧Blk wr b ((pcs (bsL t) ((t.size+3)/4) k).map (Value.int .u32))∧Keeps (· <b) w wr) (fun i _=>t.size-(intOf i).toNat)
 case atStart=>exact⟨0,rfl,Nat.zero_le _,by rw[pcs_zero,List.map_replicate];exact Hb0.out,Hk0.out⟩
 case round=>
  obtain⟨k,rfl,hk,hB,hK⟩:=hrel
  by_cases hlt:k<t.size
  ·have hq:k/4<(t.size+3)/4:=by omega
   have cx:wr.cell? ⟨b,k/4,none⟩=some (J (pc (bsL t) k (k/4))):=by
    rw[hB.cell,List.getElem?_map,pcs_get _ _ _ _ hq];rfl
   have fx:=hB.free (k/4);have i1:(k:Int)/4<((t.size:Int)+3)/4:=by omega
   have i2:0≤(k:Int)/4:=by omega
   have i3:(k:Int)<(t.size:Int):=by omega
   have HB:=hid hB;have HK:=hid hK;clear hB hK
   go_wp2_with fail
   have hw1:IntKind.i64.wrap ((k:Int)/4)=(k:Int)/4:=IntWalk.i64_in _ (by omega)
   have hw2:((k:Int)/4).toNat=k/4:=by omega
   have hby:Byte (t[k].toNat:Int):=by have:=t[k].toNat_lt;unfold Byte;omega
   have hlo:=pc_low (fun x hx=>bsL_range t x hx) k;have hsh:=fun W=>run_shl Tryz.prog (t[k].toNat:Int) k hby W;have hor:=bits_or (pc (bsL t) k (k/4)) (t[k].toNat:Int) (k%4) (by omega) hlo.1 hlo.2 hby.1 hby.2
   have hnx:=pcs_next (bsL t) ((t.size+3)/4) k;rw[bsL_get t k hlt]at hnx;have Hnx:=hid hnx;have Hby:=hid hby;have Hlo:=hid hlo;have Hor:=hid hor;clear hnx hby hlo hor
   go_still_tail 15,(by kernel_rfl)
   change wpList _ _ _ _ _ wr.drew;clear hsh hw1
   go_wp2_with fail
   go_roundw
   case rel=>
    refine⟨k+1,by go_num,by omega,?_,(HK.out.drew).setCell (by simp) _⟩
    rw[←Hnx.out,List.map_set,Hor.out];exact(HB.out.drew).set (k/4) _
   case measure=>simp[intOf];omega
  ·have hkn:k=t.size:=by omega
   subst hkn;have HB:=hid hB;have HK:=hid hK;clear hB hK
   go_wp2_with fail
   refine hR'.out _ _ ⟨rfl,?_,HK.out⟩;have:=HB.out;unfold packC;rw[bsL_len];exact this
theorem bits_xor (x y:Int)(hx:0≤x∧x≤4294967295)(hy:0≤y∧y≤255):
  bits .xor .u32 x y=((Nat.xor x.toNat y.toNat:Nat):Int):=by
 obtain⟨x,rfl⟩:=Int.eq_ofNat_of_zero_le hx.1;obtain⟨y,rfl⟩:=Int.eq_ofNat_of_zero_le hy.1;have e:(BitVec.ofInt 32 (x:Int)^^^BitVec.ofInt 32 (y:Int)).toNat=Nat.xor x y:=by
  rw[BitVec.toNat_xor,BitVec.toNat_ofInt,BitVec.toNat_ofInt];have e1:((x:Int)%((2^32:Nat):Int)).toNat=x:=by omega
  have e2:((y:Int)%((2^32:Nat):Int)).toNat=y:=by omega
  rw[e1,e2];rfl
 have hle:Nat.xor x y<2^32:=Nat.xor_lt_two_pow (by omega) (by omega)
 show IntKind.u32.wrap ((BitVec.ofInt 32 (x:Int)^^^BitVec.ofInt 32 (y:Int)).toNat:Int)=_;rw[e,IntWalk.u32_in _ (by omega)];rfl
set_option maxHeartbeats 1000000 in
theorem pack_hash (t:ByteArray)(ht:t.size≤140737488351232)(w:World):
  Z 102 #[.string t] w fun e w'=>e= .returned (J (hashL (bsL t)))∧w=w':=by
 refine calls_hide fun R' hR'=>?_
 go_enter Tryz.func102,Tryz.ntmps102
 go_wp2_with fail
 go_loop [3,7] (fun h i=>∃k:Nat,i=I k∧k≤t.size∧h=J (hashL ((bsL t).take k))) (fun _ i=>t.size-(intOf i).toNat)
 case atStart=>exact⟨0,rfl,Nat.zero_le _,rfl⟩
 case round=>
  obtain⟨k,rfl,hk,rfl⟩:=hrel;have hr:=hash_range ((bsL t).take k)
  by_cases hlt:k<t.size
  ·have hby:0≤(t[k].toNat:Int)∧(t[k].toNat:Int)≤255:=by have:=t[k].toNat_lt;omega
   have hx:=bits_xor (hashL ((bsL t).take k)) (t[k].toNat:Int) hr hby;have hst:hashL ((bsL t).take (k+1))=hashStep (hashL ((bsL t).take k)) (t[k].toNat:Int):=by
    rw[hash_take _ _ (by rw[bsL_len];exact hlt),bsL_get t k hlt]
   generalize hashL ((bsL t).take k)=h at*;obtain⟨h0,h1⟩:=hr;obtain⟨g0,g1⟩:=hby;have i3:(k:Int)<(t.size:Int):=by omega
   have Hst:=hid hst;have Hx:=hid hx;clear hst hx
   go_wp2_with fail
   go_round
   case rel=>
    refine⟨k+1,by go_num,by omega,?_⟩
    rw[Hst.out,Hx.out];rfl
   case measure=>simp[intOf];omega
  ·have hkn:k=t.size:=by omega
   subst hkn
   go_wp2_with fail
   refine hR'.out _ _ ⟨?_,rfl⟩;rw[List.take_of_length_le (by rw[bsL_len];omega)]
set_option maxRecDepth 100000 in
set_option maxHeartbeats 1000000 in
theorem pack_key (f:Int)(t:ByteArray)(hf:0≤f∧f≤255)(ht:t.size≤140737488351232)(w:World):
  Z 74 #[.int .u8 f,.string t] w fun e w'=>∃s,e= .returned (.string s)∧bsL s=f::bsL t∧Keeps (· <w.heap.size) w w':=by
 have hcv:=run_convert_bytes_back (P:=Tryz.prog) (w.alloc (.cells #[.int .u8 f] 5)) 186 9 5 ⟨w.heap.size,0,none⟩ 1 [UInt8.ofNat f.toNat] Tryz.underlying186 Tryz.underlying5 Tryz.underlying9 (by
  intro j hj;have:j=0:=by simpa using hj
  subst this;have e:=(Blk.new w [.int .u8 f] 5).cell 0;simp only[List.getElem?_cons_zero]at e;have:((UInt8.ofNat f.toNat).toNat:Int)=f:=by
   rw[UInt8.toNat_ofNat'];omega
  show _=some (Value.int .u8 ((UInt8.ofNat f.toNat).toNat:Int));rw[this];exact e)
 simp only[List.length_singleton]at hcv;refine calls_hide fun R' hR'=>?_
 go_enter Tryz.func74,Tryz.ntmps74
 go_wp2_with fail
 refine hR'.out _ _ ⟨_,rfl,?_,(Keeps.refl _ _).alloc (fun b hb=>hb) _⟩;have e1:((UInt8.ofNat f.toNat).toNat:Int)=f:=by rw[UInt8.toNat_ofNat'];omega
 simp only[bsL,ByteArray.data_append,Array.toList_append,List.map_append,List.map_cons,List.map_nil,e1]
 rfl
set_option maxRecDepth 100000 in
set_option maxHeartbeats 4000000 in
theorem ref4_at (s:ByteArray)(hs:s.size≤17592186044416)(i:Nat)(hi:i<s.size)(w:World):Z 115 #[.string s,I (i:Int)] w fun e w'=>e= .returned (.tuple #[.int .i32 (atP s i).1,I (atP s i).2])∧Keeps (· <w.heap.size) w w':=by
 have hiI:(i:Int)<(s.size:Int):=by omega
 have hb:=byteI_bnd s i;have hba:=byteI_at s i hi;have h1P:=atP_one s i;have hnP:=atP_none s i hi;generalize hat:atP s i=at' at*;obtain⟨rr,rk⟩:=at';dsimp only;generalize hz:s[i].toNat=z at*;have H1P:=hid h1P;have HnP:=hid hnP;have Hat:=hid hat;clear h1P hnP hat;refine calls_hide fun R' hR'=>?_
 go_enter Tryz.func115,Tryz.ntmps115
 by_cases g1:z<128
 ·have g1I:(z:Int)<128:=by omega
  have he:=H1P.out (by omega)
  injection he with e1 e2
  rw[hba]at e1;subst e1 e2;exact c58
 have g1I:¬(z:Int)<128:=by omega
 by_cases g2:z<192∨248≤z
 ·have hk:leadK (byteI s i)=0:=by
   unfold leadK
   repeat' split
   all_goals omega
  have he:=HnP.out (by omega) (Or.inl hk)
  injection he with e1 e2
  subst e1 e2
  rcases g2 with g2|g2
  ·have g2I:¬192≤(z:Int):=by omega
   have g3I:¬224≤(z:Int):=by omega
   have g4I:¬240≤(z:Int):=by omega
   go_wp2_with fail
   exact hR'.out _ _ ⟨rfl,Keeps.refl _ _⟩
  ·have g2I:¬(z:Int)<224:=by omega
   have g3I:¬(z:Int)<240:=by omega
   have g4I:¬(z:Int)<248:=by omega
   have g5I:192≤(z:Int):=by omega
   have g6I:224≤(z:Int):=by omega
   have g7I:240≤(z:Int):=by omega
   go_wp2_with fail
   exact hR'.out _ _ ⟨rfl,Keeps.refl _ _⟩
 rcases(by omega:(192≤z∧z<224)∨(224≤z∧z<240)∨(240≤z∧z<248))with g3|g3|g3
 ·have a1:192≤(z:Int):=by omega
  have a2:(z:Int)<224:=by omega
  have a3:¬224≤(z:Int):=by omega
  have a4:¬240≤(z:Int):=by omega
  have hk:leadK (byteI s i)=2:=by
   unfold leadK
   repeat' split
   all_goals omega
  have hln:leadN (byteI s i)=(z:Int)-192:=by
   unfold leadN
   repeat' split
   all_goals omega
  have zz118:=PLift.up @c599;exact c598
 ·have a1:192≤(z:Int):=by omega
  have a2:¬(z:Int)<224:=by omega
  have a3:224≤(z:Int):=by omega
  have a5:(z:Int)<240:=by omega
  have a4:¬240≤(z:Int):=by omega
  have hk:leadK (byteI s i)=3:=by
   unfold leadK
   repeat' split
   all_goals omega
  have hln:leadN (byteI s i)=(z:Int)-224:=by
   unfold leadN
   repeat' split
   all_goals omega
  have zz118:=PLift.up @c600;exact c598
 ·have a1:192≤(z:Int):=by omega
  have a2:¬(z:Int)<224:=by omega
  have a3:224≤(z:Int):=by omega
  have a5:¬(z:Int)<240:=by omega
  have a4:240≤(z:Int):=by omega
  have a6:(z:Int)<248:=by omega
  have hk:leadK (byteI s i)=4:=by
   unfold leadK
   repeat' split
   all_goals omega
  have hln:leadN (byteI s i)=(z:Int)-240:=by
   unfold leadN
   repeat' split
   all_goals omega
  have zz118:=PLift.up @c601;exact c598
def lettersP:List (Int×Int):=[(0x41,0x5A),(0x61,0x7A),(0xC0,0xD6),(0xD8,0xF6),(0xF8,0x24F),(0x386,0x386),(0x388,0x38A),(0x38C,0x38C),(0x38E,0x3A1),(0x3A3,0x3CE),(0x400,0x481),(0x48A,0x52F),(0x5D0,0x5EA)]
def highP:List (Int×Int):=[(0x4E00,0x9FFF),(0xAC00,0xD7A3)]
def spanC (l:List (Int×Int)):List Value:=l.flatMap fun p=>[.int .i32 p.1,.int .i32 p.2]
def classL (r:Int):List (Int×Int)→Int
 | []=>0
 |p::l=>if r<p.1 then 0 else if r≤p.2 then 1 else classL r l
def classM (r:Int):Int:=
 if(48≤r∧r≤57)∨(1632≤r∧r≤1641)then 2 else if(19968≤r∧r≤40959)∨(44032≤r∧r≤55203)then 1 else classL r lettersP
def movesP:List (Int×Int×Int×Int):=[(0x41,0x5A,1,32),(0xC0,0xD6,1,32),(0xD8,0xDE,1,32),(0x100,0x137,2,1),(0x139,0x148,3,1),(0x14A,0x177,2,1),
 (0x178,0x178,1,-121),(0x179,0x17E,3,1),(0x17F,0x17F,1,-268),(0x386,0x386,1,0x26),(0x388,0x38A,1,0x25),(0x38C,0x38C,1,0x40),
 (0x38E,0x38F,1,0x3F),(0x391,0x3A1,1,32),(0x3A3,0x3AB,1,32),(0x3C2,0x3C2,1,1),(0x400,0x40F,1,80),(0x410,0x42F,1,32),
 (0x460,0x481,2,1),(0x48A,0x4BF,2,1),(0x4D0,0x52F,2,1),(0x660,0x669,1,-0x630),(0,0,0,0),(0,0,0,0)]
def moveC (l:List (Int×Int×Int×Int)):List Value:=l.flatMap fun p=>[.int .i32 p.1,.int .i32 p.2.1,.int .i64 p.2.2.1,.int .i32 p.2.2.2]
structure FoldTab (w:World):Prop where
 high:w.rangeAt 1 0 (spanC highP)
 letters:w.rangeAt 2 0 (spanC lettersP)
 moves:w.rangeAt 3 0 (moveC movesP)
 lt:1<w.heap.size∧2<w.heap.size∧3<w.heap.size
theorem FoldTab.keep {w w':World}(h:FoldTab w)(k:Keeps (· <w.heap.size) w w'):FoldTab w':=by
 have go:∀b cs,b<w.heap.size→w.rangeAt b 0 cs→w'.rangeAt b 0 cs:=fun b cs hb hr j v hv=>(World.cell?_of_block (a:=⟨b,0+j,none⟩) (k.block b hb)).trans (hr j v hv);have:=k.size;exact⟨go _ _ h.lt.1 h.high,go _ _ h.lt.2.1 h.letters,go _ _ h.lt.2.2 h.moves,by have:=h.lt;omega⟩
theorem letters_index (i:Nat)(hi:i<13)(w:World):∃lo hi,lettersP[i]? =some (lo,hi)∧(Instr.index 195 (.agg (spanC lettersP).toArray) (I (i:Int))).run Tryz.prog w= .ok (.agg #[.int .i32 lo,.int .i32 hi]) w:=by
 rcases(by omega:i=0∨i=1∨i=2∨i=3∨i=4∨i=5∨i=6∨i=7∨i=8∨i=9∨i=10∨i=11∨i=12)with rfl|rfl|rfl|rfl|rfl|rfl|rfl|rfl|rfl|rfl|rfl|rfl|rfl
 all_goals exact⟨_,_,rfl,by kernel_rfl⟩
set_option maxRecDepth 100000 in
set_option maxHeartbeats 2000000 in
theorem fold_class (r:Int)(hr: -2147483648≤r∧r≤2147483647)(w:World)(hT:FoldTab w):Z 97 #[.int .i32 r] w fun e w'=>e= .returned (I (classM r))∧Keeps (· <w.heap.size) w w':=by
 have HT:=hid hT;have h0:=hT.high 0 _ rfl;have h1:=hT.high 1 _ rfl;have h2:=hT.high 2 _ rfl;have h3:=hT.high 3 _ rfl;simp only[Nat.zero_add]at h0 h1 h2 h3;clear hT;refine calls_hide fun R' hR'=>?_
 go_enter Tryz.func97,Tryz.ntmps97
 by_cases a1:48≤r∧r≤57
 ·obtain⟨b1,b2⟩:=a1;have hm:classM r=2:=by unfold classM;rw[if_pos (Or.inl ⟨b1,b2⟩)]
  exact c99
 by_cases a2:1632≤r∧r≤1641
 ·obtain⟨b1,b2⟩:=a2;have hm:classM r=2:=by unfold classM;rw[if_pos (Or.inr ⟨b1,b2⟩)]
  exact c99
 by_cases a3:19968≤r∧r≤40959
 ·obtain⟨b1,b2⟩:=a3;have hm:classM r=1:=by unfold classM;rw[if_neg (by omega),if_pos (Or.inl ⟨b1,b2⟩)]
  exact c99
 by_cases a4:44032≤r∧r≤55203
 ·obtain⟨b1,b2⟩:=a4;have hm:classM r=1:=by unfold classM;rw[if_neg (by omega),if_pos (Or.inr ⟨b1,b2⟩)]
  exact c99
 have hm:classM r=classL r lettersP:=by unfold classM;rw[if_neg (by omega),if_neg (by omega)]
 have n1:¬(48≤r∧r≤57):=a1;have HM:=hid hm;clear hm;obtain⟨LA,hLA⟩:∃LA,LA=(spanC lettersP).toArray:=⟨_,rfl⟩
 rcases(by omega:r<48∨(57<r∧r<1632)∨(1641<r∧r<19968)∨(40959<r∧r<44032)∨55203<r)with c1|⟨c1,c2⟩|⟨c1,c2⟩|⟨c1,c2⟩|c1
 all_goals
  clear a1 a2 a3 a4 n1
  go_wp2_with fail
  go_step3
  go_wp2_with fail
  go_step3
  go_wp2_with (with_reducible refine wpList_load_mid rfl 195 (.global 2) rfl 2 0 rfl (spanC lettersP) _ HT.out.letters Tryz.underlying195 rfl (by kernel_rfl) ?_)
  rw[←hLA];have HLA:=hid hLA;clear hLA
  go_wp2_with fail
  go_loopw[3,45] (fun cv iv wr=>∃i:Nat,cv=I 0∧iv=I (i:Int)∧i≤13∧Hid (classL r (lettersP.drop i)=classM r)∧Hid (Keeps (· <w.heap.size) w wr)) (fun _ iv _=>13-(intOf iv).toNat)
  case atStart=>exact⟨0,rfl,rfl,by decide,hid HM.out.symm,hid (Keeps.refl _ _)⟩
  case round=>
   obtain⟨i,rfl,rfl,hi,HC,HK⟩:=hrel
   by_cases hlt:i<13
   ·have hltI:(i:Int)<13:=by omega
    obtain⟨lo,hi9,hg,-⟩:=letters_index i hlt w;have hix:∀w,(Instr.index 195 (.agg LA) (I (i:Int))).run Tryz.prog w= .ok (.agg #[.int .i32 lo,.int .i32 hi9]) w:=by
     intro w;obtain⟨lo',hi',hg',h⟩:=letters_index i hlt w;rw[hg]at hg';injection hg' with hg'
     injection hg' with e1 e2
     rw[HLA.out,e1,e2];exact h
    have hcl:=HC.out;have hd:lettersP.drop i=(lo,hi9)::lettersP.drop (i+1):=by
     obtain⟨h9,h8⟩:=List.getElem?_eq_some_iff.1 hg;rw[List.drop_eq_getElem_cons h9,h8]
    rw[hd]at hcl;unfold classL at hcl;dsimp only at hcl;have hbs:=HK.out.size;have hk2:=HK.out.alloc (fun b hb=>Nat.lt_of_lt_of_le hb hbs) (.cells #[.int .i32 lo,.int .i32 hi9] 193);clear HC hd hg
    by_cases q1:r<lo
    ·rw[if_pos q1]at hcl;exact c31
    ·by_cases q2:r≤hi9
     ·rw[if_neg q1,if_pos q2]at hcl;exact c31
     ·rw[if_neg q1,if_neg q2]at hcl;exact c110
   ·obtain rfl:i=13:=by omega
    have hcl:=HC.out;have hcl:0=classM r:=hcl;have Hcl:=hid hcl;clear hcl
    go_wp2_with fail
    exact hR'.out _ _ ⟨by rw[←Hcl.out];first|rfl|skip,HK.out⟩
def foldL (r:Int):List (Int×Int×Int×Int)→Int
 | []=>r
 |p::l=>if p.2.2.1=0∨r<p.1 then r else if r>p.2.1 then foldL r l else if p.2.2.1=1∨(p.2.2.1=2∧r%2=0)∨(p.2.2.1=3∧r%2=1)then r+p.2.2.2 else r
def foldM (r:Int):Int:=foldL r movesP
theorem moves_index (i:Nat)(hi:i<24)(w:World):∃lo hi ev by',movesP[i]? =some (lo,hi,ev,by')∧(0≤lo∧hi≤1641∧-2000≤by'∧by'≤200)∧(Instr.index 198 (.agg (moveC movesP).toArray) (I (i:Int))).run Tryz.prog w= .ok (.agg #[.int .i32 lo,.int .i32 hi,I ev,.int .i32 by']) w:=by
 rcases(by omega:i=0∨i=1∨i=2∨i=3∨i=4∨i=5∨i=6∨i=7∨i=8∨i=9∨i=10∨i=11∨i=12∨i=13∨i=14∨i=15∨i=16∨i=17∨i=18∨i=19∨i=20∨i=21∨i=22∨i=23)with rfl|rfl|rfl|rfl|rfl|rfl|rfl|rfl|rfl|rfl|rfl|rfl|rfl|rfl|rfl|rfl|rfl|rfl|rfl|rfl|rfl|rfl|rfl|rfl
 all_goals exact⟨_,_,_,_,rfl,by decide,by kernel_rfl⟩
set_option maxRecDepth 100000 in
set_option maxHeartbeats 4000000 in
theorem fold_fold (r:Int)(hr: -2147483648≤r∧r≤2147483647)(w:World)(hT:FoldTab w):Z 98 #[.int .i32 r] w fun e w'=>e= .returned (.int .i32 (foldM r))∧Keeps (· <w.heap.size) w w':=by
 have HT:=hid hT;clear hT;obtain⟨LA,hLA⟩:∃LA,LA=(moveC movesP).toArray:=⟨_,rfl⟩;refine calls_hide fun R' hR'=>?_
 go_enter Tryz.func98,Tryz.ntmps98
 go_wp2_with fail
 go_step3
 go_wp2_with fail
 go_step3
 go_wp2_with (with_reducible refine wpList_load_mid rfl 198 (.global 3) rfl 3 0 rfl (moveC movesP) _ HT.out.moves Tryz.underlying198 rfl (by kernel_rfl) ?_)
 rw[←hLA];have HLA:=hid hLA;clear hLA
 go_wp2_with fail
 go_loopw[3,8] (fun ov iv wr=>∃i:Nat,ov= .int .i32 r∧iv=I (i:Int)∧i≤24∧Hid (foldL r (movesP.drop i)=foldM r)∧Hid (Keeps (· <w.heap.size) w wr)) (fun _ iv _=>24-(intOf iv).toNat)
 case atStart=>exact⟨0,rfl,rfl,by decide,hid rfl,hid (Keeps.refl _ _)⟩
 case round=>
  obtain⟨i,rfl,rfl,hi,HC,HK⟩:=hrel
  by_cases hlt:i<24
  ·have hltI:(i:Int)<24:=by omega
   obtain⟨lo,hi9,ev,bb,hg,⟨g0,g1,g2,g3⟩,-⟩:=moves_index i hlt w;have hix:∀w,(Instr.index 198 (.agg LA) (I (i:Int))).run Tryz.prog w= .ok (.agg #[.int .i32 lo,.int .i32 hi9,I ev,.int .i32 bb]) w:=by
    intro w;obtain⟨lo',hi',ev',by',hg',_,h⟩:=moves_index i hlt w
    rw[hg]at hg';injection hg' with hg'
    injection hg' with e1 e2
    injection e2 with e2 e3
    injection e3 with e3 e4
    rw[HLA.out,e1,e2,e3,e4];exact h
   have hcl:=HC.out;have hd:movesP.drop i=(lo,hi9,ev,bb)::movesP.drop (i+1):=by
    obtain⟨h9,h8⟩:=List.getElem?_eq_some_iff.1 hg;rw[List.drop_eq_getElem_cons h9,h8]
   rw[hd]at hcl;unfold foldL at hcl;dsimp only at hcl;have hbs:=HK.out.size;have hk2:=HK.out.alloc (fun b hb=>Nat.lt_of_lt_of_le hb hbs) (.cells #[.int .i32 lo,.int .i32 hi9,I ev,.int .i32 bb] 197);clear HC hd hg
   by_cases q0:ev=0
   ·rw[if_pos (Or.inl q0)]at hcl;have b0:(ev==0)=true:=by simp[q0]
    have Q0:=hid q0;clear q0;exact c31
   have b0:(ev==0)=false:=by simpa using q0
   by_cases q1:r<lo
   ·rw[if_pos (Or.inr q1)]at hcl;exact c31
   rw[if_neg (by rintro(h|h);exact q0 h;exact q1 h)]at hcl
   by_cases q2:r>hi9
   ·rw[if_pos q2]at hcl;exact c110
   rw[if_neg q2]at hcl
   by_cases q3:ev=1
   ·rw[if_pos (Or.inl q3)]at hcl;have b1:(ev==1)=true:=by simp[q3]
    have Q3:=hid q3;clear q3 q0;exact c31
   have b1:(ev==1)=false:=by simpa using q3
   have hr2:r.tmod 2=r%2:=Int.tmod_eq_emod_of_nonneg (by omega)
   have hbd: -2147483648≤r+bb∧r+bb≤2147483647:=by omega
   by_cases q4:ev=2
   ·have b2:(ev==2)=true:=by simp[q4]
    have b3:(ev==3)=false:=by simp[q4]
    by_cases q5:r%2=0
    ·rw[if_pos (Or.inr (Or.inl ⟨q4,q5⟩))]at hcl;have b5:(r%2==0)=true:=by simp[q5]
     clear q0 q3 q4 q5 hr2;exact c31
    ·rw[if_neg (by omega)]at hcl
     have b5:(r%2==0)=false:=by simpa using q5
     clear q0 q3 q4 q5 hr2;exact c31
   have b2:(ev==2)=false:=by simpa using q4
   by_cases q6:ev=3
   ·have b3:(ev==3)=true:=by simp[q6]
    by_cases q5:r%2=1
    ·rw[if_pos (Or.inr (Or.inr ⟨q6,q5⟩))]at hcl;have b5:(r%2==1)=true:=by simp[q5]
     clear q0 q3 q4 q5 q6 hr2;exact c31
    ·rw[if_neg (by omega)]at hcl
     have b5:(r%2==1)=false:=by simpa using q5
     clear q0 q3 q4 q5 q6 hr2;exact c31
   have b3:(ev==3)=false:=by simpa using q6
   rw[if_neg (by omega)]at hcl
   clear q0 q3 q4 q6 hr2;exact c31
  ·obtain rfl:i=24:=by omega
   have hcl:=HC.out;have hcl:r=foldM r:=hcl;have HCL:=hid hcl;clear hcl
   go_wp2_with fail
   exact hR'.out _ _ ⟨by rw[←HCL.out];first|rfl|skip,HK.out⟩
theorem RM.init {w1 w2:World}{K:Nat→Prop}{m c:Nat}{μ:MemS}{σ:RunS}(hm:MemAt w1 m c μ)(hr:RunAt w2 w1.heap.size m (.slice none 0 0) σ)
  (hk:Keeps (· <w1.heap.size) w1 w2) (hK:∀b,K b→b<w1.heap.size∧b≠m∧b≠c):RM w2 K w1.heap.size m c ⟨σ,μ⟩:=by
 have h1:=hm.obj.lt;have h2:=hm.cells.lt;exact⟨⟨_,hr,fun k hk=>by cases hk⟩,hm.keep hk h1 h2,by omega,by omega,fun h=>by have:=(hK _ h).1;omega,fun h=>(hK _ h).2.1 rfl,fun h=>(hK _ h).2.2 rfl,
  fun b hb=>by have:=(hK b hb).1;have:=hk.size;omega⟩
def run0:RunS:=⟨[],0,false,false,false,false,0⟩
theorem RM.append {w w1:World}{K:Nat→Prop}{v v':Value}{r m c:Nat}{s:St}(h:RM w (fun b=>K b∨v.ownBlock=some b) r m c s)(hg:w.grownBy w1 v.ownBlock)
  (hf:v'.ownBlock=v.ownBlock∨∃b,v'.ownBlock=some b∧w.heap.size≤b) (hlt:∀b,v'.ownBlock=some b→b<w1.heap.size):
  RM w1 (fun b=>K b∨v'.ownBlock=some b) r m c s:=by
 have hl:=h.lts;have hk:Keeps (fun b=>b<w.heap.size∧some b≠v.ownBlock) w w1:=⟨hg.os,hg.tape,hg.output,hg.size,fun b hb=>hg.block b hb.1 hb.2⟩;have h1:=h.keep _ hk (fun b hb hn=>⟨hb,fun e=>hn (Or.inr e.symm)⟩);obtain⟨g,hr,ho⟩:=h1.run;obtain⟨g0,hr0,ho0⟩:=h.run;have e:g=g0:=by
  have a:=hr.obj.inj (hr0.obj.keep hk ⟨hl.1,fun e=>h.kr (Or.inr e.symm)⟩);simp only[List.cons.injEq]at a;exact a.2.1
 subst e;have key:∀b,b<w.heap.size→¬(K b∨v.ownBlock=some b)→¬(K b∨v'.ownBlock=some b):=by
  rintro b hb hn (e|e)
  ·exact hn (Or.inl e)
  ·rcases hf with h2|⟨b',h2,h3⟩
   ·exact hn (Or.inr (h2▸e))
   ·rw[h2]at e;injection e with e;omega
 refine⟨⟨g,hr,fun k hk'=>⟨(ho k hk').1,(ho k hk').2.1,(ho k hk').2.2.1,key k (own_ne hr0.log k hk') (ho k hk').2.2.2⟩⟩,h1.mem,h.rm,h.rc,key _ hl.1 h.kr,key _ hl.2.1 h.km,key _ hl.2.2 h.kc,?_⟩;rintro b (e|e)
 ·have:=h.lt b (Or.inl e);have:=hk.size;omega
 ·exact hlt b e
theorem keeps_append {w w1:World}{K:Nat→Prop}{v:Value}(hK:∀b,K b→b<w.heap.size)(hn:∀b,v.ownBlock=some b→¬K b)(hg:w.grownBy w1 v.ownBlock):Keeps K w w1:=
 ⟨hg.os,hg.tape,hg.output,hg.size,fun b hb=>hg.block b (hK b hb) (fun e=>hn b e.symm hb)⟩
def Tree.wr {α:Type}:Tree α→List Int→Nat
 | .ret _,_=>0
 | .load a k,cs=>(k (cs.getD a.toNat 0)).wr cs
 | .store a v k,cs=>1+k.wr (cs.set a.toNat v)
 | .off k,cs=>(k false).wr cs
theorem Tree.wr_norm {α:Type}(t:Tree α)(cs:List Int):t.norm.wr cs=t.wr cs:=by
 exact c96
theorem ideal_step2 {α:Type}{t rest:Tree α}{s:St}{x:α}{cs':List Int}{n:Nat}(h:Way t s rest)(hi:rest.ideal s.m.cells=some (x,cs',n)):
  (n≤1∧(s.step t).2.r.over=true∧(s.step t).2.r.err=0∧(s.step t).2.m.cells=cs'∧(s.step t).2.r.log.length=s.r.log.length+n∧(s.step t).1=x∧(rest.wr s.m.cells=0→(s.step t).2.m.stores=s.m.stores))∨
  (1<n∧(s.step t).2.r.over=false∧∃rest',Way t (s.step t).2 rest'∧rest'.ideal (s.step t).2.m.cells=some (x,cs',n-1)∧(s.step t).2.r.log.length=s.r.log.length+1∧(rest.wr s.m.cells=0→rest'.wr (s.step t).2.m.cells=0∧(s.step t).2.m.stores=s.m.stores)):=by
 have hn:rest.norm=rest:=by rw[←h.rest];exact t.peel_norm _
 rcases rest.norm_cases hn with⟨y,e⟩|⟨a,k,e⟩|⟨a,v,k,e⟩
 ·subst e;injection hi with hi;injection hi with h1 h2;injection h2 with h2 h3
  subst h1 h2 h3;rw[way_end h];exact Or.inl ⟨by omega,rfl,rfl,rfl,rfl,rfl,fun _=>rfl⟩
 ·subst e;unfold Tree.ideal at hi
  split at hi
  ·rename_i hin
   have hb:s.m.inb a=true:=(inb_iff _ _).2 hin;have hv:s.m.cells.getD a.toNat 0=s.m.at a:=rfl;rw[hv]at hi;obtain⟨y,hy,hy2⟩:=Option.map_eq_some_iff.1 hi;injection hy2 with h1 h2;injection h2 with h2 h3
   obtain⟨w1,w2⟩:=way_load h hb;have hc:(s.step t).2.m.cells=s.m.cells:=by rw[w1];simp[MemS.load,hb]
   have hst:(s.step t).2.m.stores=s.m.stores:=by rw[w1];simp[MemS.load,hb]
   have hl:(s.step t).2.r.log.length=s.r.log.length+1:=by rw[w1];simp
   have hwr:(Tree.load a k).wr s.m.cells=(k (s.m.at a)).wr s.m.cells:=rfl
   cases hr:(k (s.m.at a)).norm.isRet
   ·refine Or.inr ⟨?_,by rw[w1];exact hr,_,way_next_load h hb hr,?_,hl,fun h0=>⟨?_,hst⟩⟩
    ·have:y.2.2≠0:=by
      intro h0;have:=(Tree.ideal_norm (k (s.m.at a)) s.m.cells).trans hy
      rcases Tree.norm_cases _ (Tree.norm_norm (k (s.m.at a)))with⟨z,e⟩|⟨b,k',e⟩|⟨b,v',k',e⟩
      ·rw[e]at hr;cases hr
      ·exact c64
      ·exact c64
     omega
    ·rw[hc,Tree.ideal_norm,hy];obtain⟨y1,y2,y3⟩:=y;simp only at h1 h2 h3;subst h1 h2 h3
     rfl
    ·rw[hc,Tree.wr_norm,←hwr];exact h0
   ·obtain⟨z1,z2,z3⟩:=Tree.ideal_ret (x:=y.1) (cs':=y.2.1) (n:=y.2.2) hy hr;refine Or.inl ⟨by omega,by rw[w1];exact hr,by rw[w1],by rw[hc,←h2,z2],by rw[hl];omega,?_,fun _=>hst⟩
    rw[w2 _ z1,h1]
  ·cases hi
 ·subst e;unfold Tree.ideal at hi
  split at hi
  ·rename_i hin
   have hb:s.m.inb a=true:=(inb_iff _ _).2 hin;obtain⟨y,hy,hy2⟩:=Option.map_eq_some_iff.1 hi;injection hy2 with h1 h2;injection h2 with h2 h3
   obtain⟨w1,w2⟩:=way_store h hb;have hc:(s.step t).2.m.cells=s.m.cells.set a.toNat v:=by rw[w1];simp[MemS.store,hb]
   have hl:(s.step t).2.r.log.length=s.r.log.length+1:=by rw[w1];simp
   have hwr:(Tree.store a v k).wr s.m.cells≠0:=by
    show 1+_≠0
    omega
   cases hr:k.norm.isRet
   ·refine Or.inr ⟨?_,by rw[w1];exact hr,_,way_next_store h hb hr,?_,hl,fun h0=>absurd h0 hwr⟩
    ·have:y.2.2≠0:=by
      intro h0;have:=(Tree.ideal_norm k (s.m.cells.set a.toNat v)).trans hy
      rcases Tree.norm_cases _ (Tree.norm_norm k)with⟨z,e⟩|⟨b,k',e⟩|⟨b,v',k',e⟩
      ·rw[e]at hr;cases hr
      ·exact c64
      ·exact c64
     omega
    ·rw[hc,Tree.ideal_norm,hy];obtain⟨y1,y2,y3⟩:=y;simp only at h1 h2 h3;subst h1 h2 h3
     rfl
   ·obtain⟨z1,z2,z3⟩:=Tree.ideal_ret (x:=y.1) (cs':=y.2.1) (n:=y.2.2) hy hr;refine Or.inl ⟨by omega,by rw[w1];exact hr,by rw[w1],by rw[hc,←h2,z2],by rw[hl];omega,?_,fun h0=>absurd h0 hwr⟩
    rw[w2 _ z1,h1]
  ·cases hi
end Go.Proofs.YtogdknnkhkjmcaaGreatDoor
