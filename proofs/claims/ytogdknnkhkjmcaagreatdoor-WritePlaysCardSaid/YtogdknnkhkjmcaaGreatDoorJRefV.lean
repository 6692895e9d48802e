/- The document's layer 4: May, Bytes, at. -/
import Derived.Test.YtogdknnkhkjmcaaGreatDoorJRcE
namespace Go.Proofs.YtogdknnkhkjmcaaGreatDoor
open Go.RowKit
set_option linter.all false
theorem valid_eq (r:Int):Utf8.valid r=((decide (0≤r)&&decide (r<55296))||(decide (57344≤r)&&decide (r≤1114111))):=rfl
set_option maxRecDepth 100000 in
set_option maxHeartbeats 1000000 in
theorem ref4_may (r:Int)(w:World):Calls Tryz.prog 117 #[.int .i32 r] w fun e w'=>e= .returned (.bool (Utf8.valid r))∧w=w':=by
 have hv:=valid_eq r;generalize Utf8.valid r=v at*;have HV:=hid hv;clear hv;refine calls_hide fun R' hR'=>?_
 go_enter Tryz.func117,Tryz.ntmps117
 by_cases h1:0≤r
 ·by_cases h2:r<55296
  ·go_wp2_with fail
   exact hR'.out _ _ ⟨by rw[HV.out];simp[h1,h2],rfl⟩
  ·by_cases h3:57344≤r
   ·by_cases h4:r≤1114111
    ·go_wp2_with fail
     exact hR'.out _ _ ⟨by rw[HV.out];simp[h3,h4],rfl⟩
    ·go_wp2_with fail
     exact hR'.out _ _ ⟨by rw[HV.out];simp[h2,h4],rfl⟩
   ·have hvb:v=false:=by rw[HV.out,decide_eq_false h2,decide_eq_false h3];simp
    clear HV;subst hvb;exact c90
 ·have h3:¬57344≤r:=by omega
  have hvb:v=false:=by rw[HV.out,decide_eq_false h1,decide_eq_false h3];simp
  clear HV;subst hvb;exact c90
theorem u8v_of (n:Nat)(h:n<256):u8v (UInt8.ofNat n)= .int .u8 (n:Int):=by
 unfold u8v;rw[UInt8.toNat_ofNat',Nat.mod_eq_of_lt (by omega)]
theorem encB_of (r:Int)(c:Nat)(hc:c=if Utf8.valid r then r.toNat else 65533):encB r=if c<128 then [UInt8.ofNat c]else if c<2048 then [UInt8.ofNat (192+c/64),UInt8.ofNat (128+c%64)]
  else if c<65536 then [UInt8.ofNat (224+c/4096),UInt8.ofNat (128+c/64%64),UInt8.ofNat (128+c%64)]else [UInt8.ofNat (240+c/262144),UInt8.ofNat (128+c/4096%64),UInt8.ofNat (128+c/64%64),UInt8.ofNat (128+c%64)]:=by
 subst hc;unfold encB;simp only[Utf8.encode,Utf8.runeError]
 repeat' split
 all_goals rfl
theorem valid_max {r:Int}(h:Utf8.valid r=true):0≤r∧r≤1114111:=by
 rw[valid_eq]at h;simp only[Bool.or_eq_true,Bool.and_eq_true,decide_eq_true_eq]at h
 omega
theorem NewB.lit (w:World)(bs:List UInt8)(n:Nat)(T:TypeId)(hT:T=5)(hn:bs.length=n)(hm:n≤4):NewB w (w.alloc (.cells (bs.map u8v).toArray T)) (.slice (some ⟨w.heap.size,0,none⟩) n n) bs:=by
 subst hn;exact⟨own_lit w w.heap.size _ T 1 _ _ hT (by simp) (by unfold maxLen;omega) (Nat.le_refl _),(Keeps.refl _ _).alloc (fun b hb=>hb) _⟩
set_option maxRecDepth 100000 in
set_option maxHeartbeats 4000000 in
theorem ref4_bytes (r:Int)(hr: -2147483648≤r∧r≤2147483647)(w:World):Calls Tryz.prog 112 #[.int .i32 r] w fun e w'=>∃v,e= .returned v∧NewB w w' v (encB r):=by
 obtain⟨c,hc⟩:∃c:Nat,c=if Utf8.valid r then r.toNat else 65533:=⟨_,rfl⟩
 have hen:=encB_of r c hc;have hcm:c≤1114111:=by
  rw[hc]
  split
  ·rename_i h;have:=valid_max h;omega
  ·omega
 obtain⟨x,hx⟩:∃x:Int,x=if Utf8.valid r then r else 65533:=⟨_,rfl⟩
 have hcx:x=(c:Int):=by
  rw[hx,hc]
  cases h:Utf8.valid r with
  |true=>have:=valid_max h;rw[if_pos rfl,if_pos rfl];omega
  |false=>rw[if_neg (by decide),if_neg (by decide)];rfl
 have Hen:=hid hen;have Hc:=hid hc;have Hx:=hid hx;have Hcx:=hid hcx;clear hen hc hx hcx;refine calls_hide fun R' hR'=>?_
 go_enter Tryz.func112,Tryz.ntmps112
 go_wp2_with fail
 refine(ref4_may r w).mono ?_;rintro e w1 ⟨rfl,rfl⟩
 cases hv:Utf8.valid r with
 |true=>
  have hrx:r=(c:Int):=by rw[←Hcx.out,Hx.out,hv,if_pos rfl]
  have hr0:0≤r:=by omega
  have hr1:r≤1114111:=by omega
  clear Hc Hx Hcx hr
  by_cases h1:c<128
  ·have h1I:r<128:=by omega
   have he:=Hen.out;rw[if_pos h1]at he;have hn:=NewB.lit w [UInt8.ofNat c] 1 5 rfl rfl (by decide)
   rw[List.map_cons,List.map_nil,u8v_of c (by omega),←hrx]at hn
   clear hrx h1 hcm hv;exact c87
  have h1I:¬r<128:=by omega
  by_cases h2:c<2048
  ·have h2I:r<2048:=by omega
   have he:=Hen.out;rw[if_neg h1,if_pos h2]at he;have hn:=NewB.lit w [UInt8.ofNat (192+c/64),UInt8.ofNat (128+c%64)] 2 5 rfl rfl (by decide)
   simp only[List.map_cons,List.map_nil]at hn;rw[u8v_of _ (by omega),u8v_of _ (by omega)]at hn
   have e1:((192+c/64:Nat):Int)=192+r/64:=by omega
   have e2:((128+c%64:Nat):Int)=128+r%64:=by omega
   rw[e1,e2]at hn;clear e1 e2 h1 h2 hv hrx hcm;exact c87
  have h2I:¬r<2048:=by omega
  by_cases h3:c<65536
  ·have h3I:r<65536:=by omega
   have he:=Hen.out;rw[if_neg h1,if_neg h2,if_pos h3]at he;have hn:=NewB.lit w [UInt8.ofNat (224+c/4096),UInt8.ofNat (128+c/64%64),UInt8.ofNat (128+c%64)] 3 5 rfl rfl (by decide)
   simp only[List.map_cons,List.map_nil]at hn;rw[u8v_of _ (by omega),u8v_of _ (by omega),u8v_of _ (by omega)]at hn
   have e1:((224+c/4096:Nat):Int)=224+r/4096:=by omega
   have e2:((128+c/64%64:Nat):Int)=128+r/64%64:=by omega
   have e3:((128+c%64:Nat):Int)=128+r%64:=by omega
   rw[e1,e2,e3]at hn;clear e1 e2 e3 h1 h2 h3 hv hrx hcm;exact c87
  ·have h3I:¬r<65536:=by omega
   have he:=Hen.out;rw[if_neg h1,if_neg h2,if_neg h3]at he;have hn:=NewB.lit w [UInt8.ofNat (240+c/262144),UInt8.ofNat (128+c/4096%64),UInt8.ofNat (128+c/64%64),UInt8.ofNat (128+c%64)] 4 5 rfl rfl (by decide)
   simp only[List.map_cons,List.map_nil]at hn;rw[u8v_of _ (by omega),u8v_of _ (by omega),u8v_of _ (by omega),u8v_of _ (by omega)]at hn
   have e0:((240+c/262144:Nat):Int)=240+r/262144:=by omega
   have e1:((128+c/4096%64:Nat):Int)=128+r/4096%64:=by omega
   have e2:((128+c/64%64:Nat):Int)=128+r/64%64:=by omega
   have e3:((128+c%64:Nat):Int)=128+r%64:=by omega
   rw[e0,e1,e2,e3]at hn;clear e0 e1 e2 e3 h1 h2 h3 hv hrx hcm;exact c87
 |false=>
  have hc3:c=65533:=by rw[Hc.out,hv,if_neg (by decide)]
  have he:=Hen.out;rw[hc3]at he;have hn:=NewB.lit w [239,191,189] 3 5 rfl rfl (by decide)
  have He:=hid he;have Hn:=hid hn;clear he hn;clear Hc Hx Hcx Hen hcm hc3
  go_wp2_with fail
  exact hR'.out _ _ ⟨_,rfl,by rw[He.out];exact Hn.out⟩
def byteI (s:ByteArray)(i:Nat):Int:=((s.get! i).toNat:Int)
theorem byteI_bnd (s:ByteArray)(i:Nat):0≤byteI s i∧byteI s i≤255:=by unfold byteI;have:=(s.get! i).toNat_lt;omega
theorem byteI_at (s:ByteArray)(i:Nat)(h:i<s.size):byteI s i=((s[i]).toNat:Int):=by
 obtain⟨d⟩:=s;unfold byteI;have:(⟨d⟩:ByteArray).get! i=d[i]! :=rfl;rw[this,getElem!_pos d i h];rfl
def atP (s:ByteArray)(i:Nat):Int×Int:=if byteI s i<128 then(byteI s i,1)else if(Utf8.decode s i).2=1 then(0,0)else((Utf8.decode s i).1,(Utf8.decode s i).2)
def leadK (b:Int):Int:=if b<192 then 0 else if b<224 then 2 else if b<240 then 3 else if b<248 then 4 else 0
def leadN (b:Int):Int:=if b<224 then b-192 else if b<240 then b-224 else b-240
def accN (s:ByteArray)(i:Nat):Nat→Int
 |0=>leadN (byteI s i)
 |j+1=>accN s i j*64+byteI s (i+(j+1))-128
def contB (s:ByteArray)(i j:Nat):Prop:=∀m,1≤m→m≤j→128≤byteI s (i+m)∧byteI s (i+m)≤191
theorem accN_bnd {s:ByteArray}{i:Nat}(hb:192≤byteI s i∧byteI s i<248):∀j,j≤3→contB s i j→0≤accN s i j∧accN s i j≤32*64^j-1
 |0,_,_=>by
  show 0≤leadN _∧leadN _≤_;unfold leadN
  repeat' split
  all_goals omega
 |j+1,hj,hc=>by
  obtain⟨h1,h2⟩:=accN_bnd hb j (by omega) (fun m a b=>hc m a (by omega))
  have h3:=hc (j+1) (by omega) (Nat.le_refl _)
  have e:(64:Int)^(j+1)=64^j*64:=Int.pow_succ _ _;show 0≤accN s i j*64+byteI s (i+(j+1))-128∧accN s i j*64+byteI s (i+(j+1))-128≤_;generalize (64:Int)^j=p at*
  omega
theorem encB_len {r:Int}(h:Utf8.valid r=true):(encB r).length=if r<128 then 1 else if r<2048 then 2 else if r<65536 then 3 else 4:=by
 have hv:=valid_max h;rw[encB_of r r.toNat (by rw[if_pos h])]
 by_cases h1:r<128
 ·rw[if_pos (by omega),if_pos h1];rfl
 rw[if_neg (by omega),if_neg h1]
 by_cases h2:r<2048
 ·rw[if_pos (by omega),if_pos h2];rfl
 rw[if_neg (by omega),if_neg h2]
 by_cases h3:r<65536
 ·rw[if_pos (by omega),if_pos h3];rfl
 rw[if_neg (by omega),if_neg h3];rfl
theorem atP_one (s:ByteArray)(i:Nat)(h:byteI s i<128):atP s i=(byteI s i,1):=by unfold atP;rw[if_pos h]
theorem decN (s:ByteArray)(i:Nat):∃b0 b1 b2 b3:Nat,byteI s i=b0∧byteI s (i+1)=b1∧byteI s (i+2)=b2∧byteI s (i+3)=b3∧Utf8.decode s i=Lib.decodeN (s.size-i) b0 b1 b2 b3:=
 ⟨_,_,_,_,rfl,rfl,rfl,rfl,Lib.decode_at s i⟩
theorem atP_none (s:ByteArray)(i:Nat)(hi:i<s.size)(h:128≤byteI s i)(hn:leadK (byteI s i)=0∨(s.size:Int)-i<leadK (byteI s i)∨∃m:Nat,1≤m∧(m:Int)<leadK (byteI s i)∧¬(128≤byteI s (i+m)∧byteI s (i+m)≤191)):atP s i=(0,0):=by
 obtain⟨b0,b1,b2,b3,e0,e1,e2,e3,hd⟩:=decN s i;have q0:=byteI_bnd s i;have q1:=byteI_bnd s (i+1);have q2:=byteI_bnd s (i+2);have q3:=byteI_bnd s (i+3);have hm:∀m:Nat,1≤m→m≤3→m=1∨m=2∨m=3:=fun m _ _=>by omega
 unfold atP;rw[if_neg (by omega)]
 have key:(Utf8.decode s i).2=1:=by
  rw[hd];rw[e0]at hn h q0;unfold leadK at hn;unfold Lib.decodeN;have hn2:(b0<192∨248≤b0)∨(192≤b0∧b0<224∧(s.size<i+2∨¬(128≤b1∧b1≤191)))∨(224≤b0∧b0<240∧(s.size<i+3∨¬(128≤b1∧b1≤191)∨¬(128≤b2∧b2≤191)))∨(240≤b0∧b0<248∧(s.size<i+4∨¬(128≤b1∧b1≤191)∨¬(128≤b2∧b2≤191)∨¬(128≤b3∧b3≤191))):=by
   rcases hn with hn|hn|⟨m,m1,m2,m3⟩
   ·repeat' split at hn
    all_goals omega
   ·repeat' split at hn
    all_goals omega
   ·have hm3:m≤3:=by
     repeat' split at m2
     all_goals omega
    rcases hm m m1 hm3 with rfl|rfl|rfl
    ·rw[e1]at m3
     repeat' split at m2
     all_goals omega
    ·rw[e2]at m3
     repeat' split at m2
     all_goals omega
    ·rw[e3]at m3
     repeat' split at m2
     all_goals omega
  clear hn hm;rw[if_neg (by omega)]
  split
  ·exfalso;omega
  split
  ·exfalso;omega
  split
  ·exfalso;omega
  rfl
 rw[if_pos key]
theorem accN1 (s:ByteArray)(i:Nat):accN s i 1=leadN (byteI s i)*64+byteI s (i+1)-128:=rfl
theorem accN2 (s:ByteArray)(i:Nat):accN s i 2=(leadN (byteI s i)*64+byteI s (i+1)-128)*64+byteI s (i+2)-128:=rfl
theorem accN3 (s:ByteArray)(i:Nat):accN s i 3=((leadN (byteI s i)*64+byteI s (i+1)-128)*64+byteI s (i+2)-128)*64+byteI s (i+3)-128:=rfl
theorem atP_some (s:ByteArray)(i j:Nat)(hi:i<s.size)(h:192≤byteI s i∧byteI s i<248)(hk:leadK (byteI s i)=(j:Int)+1)(hs:i+j<s.size)(hc:contB s i j):
  (Utf8.valid (accN s i j)=true∧(encB (accN s i j)).length=j+1→atP s i=(accN s i j,(j:Int)+1))∧(¬(Utf8.valid (accN s i j)=true∧(encB (accN s i j)).length=j+1)→atP s i=(0,0)):=by
 obtain⟨b0,b1,b2,b3,e0,e1,e2,e3,hd⟩:=decN s i;have q0:=byteI_bnd s i;have hlen:∀n:Int,0≤n→n≤2097151→(Utf8.valid n=true∧(encB n).length=j+1↔(n<55296∨(57344≤n∧n≤1114111))∧(if n<128 then 1 else if n<2048 then 2 else if n<65536 then 3 else 4)=j+1):=by
  intro n h0 h1
  constructor
  ·rintro⟨a,b⟩;rw[encB_len a]at b;refine⟨?_,b⟩;rw[valid_eq]at a;simp only[Bool.or_eq_true,Bool.and_eq_true,decide_eq_true_eq]at a
   omega
  ·rintro⟨a,b⟩;have hv:Utf8.valid n=true:=by
    rw[valid_eq];simp only[Bool.or_eq_true,Bool.and_eq_true,decide_eq_true_eq]
    omega
   exact⟨hv,by rw[encB_len hv];exact b⟩
 unfold atP;rw[if_neg (by omega),hd]
 rw[e0]at h hk;unfold leadK at hk;have hj:(192≤b0∧b0<224∧j=1)∨(224≤b0∧b0<240∧j=2)∨(240≤b0∧b0<248∧j=3):=by
  repeat' split at hk
  all_goals omega
 clear hk
 rcases hj with⟨g1,g2,rfl⟩|⟨g1,g2,rfl⟩|⟨g1,g2,rfl⟩
 ·have c1:=hc 1 (by omega) (by omega)
  rw[e1]at c1;have en:accN s i 1=((b0%32*64+b1%64:Nat):Int):=by rw[accN1,e0,e1];unfold leadN;rw[if_pos (by omega)];omega
  rw[en];have hl:=hlen ((b0%32*64+b1%64:Nat):Int) (by omega) (by omega)
  have hx:Lib.decodeN (s.size-i) b0 b1 b2 b3=if b0%32*64+b1%64≥128 then(b0%32*64+b1%64,2)else(65533,1):=by
   unfold Lib.decodeN;rw[if_neg (by omega),if_pos (by omega)]
  rw[hx]
  by_cases hg:b0%32*64+b1%64≥128
  ·rw[if_pos hg,if_neg (by simp)]
   refine⟨fun _=>rfl,fun hn=>?_⟩
   exfalso
   apply hn
   rw[hl,if_neg (by omega),if_pos (by omega)]
   exact⟨by omega,rfl⟩
  ·rw[if_neg hg,if_pos rfl];refine⟨fun hn=>?_,fun _=>rfl⟩
   exfalso
   rw[hl,if_pos (by omega)]at hn
   have:=hn.2
   omega
 ·have c1:=hc 1 (by omega) (by omega)
  have c2:=hc 2 (by omega) (by omega)
  rw[e1]at c1;rw[e2]at c2;have en:accN s i 2=((b0%16*4096+b1%64*64+b2%64:Nat):Int):=by rw[accN2,e0,e1,e2];unfold leadN;rw[if_neg (by omega),if_pos (by omega)];omega
  rw[en];have hl:=hlen ((b0%16*4096+b1%64*64+b2%64:Nat):Int) (by omega) (by omega)
  have hx:Lib.decodeN (s.size-i) b0 b1 b2 b3=if b0%16*4096+b1%64*64+b2%64≥2048∧(b0%16*4096+b1%64*64+b2%64<55296∨(57344≤b0%16*4096+b1%64*64+b2%64∧b0%16*4096+b1%64*64+b2%64≤1114111))then(b0%16*4096+b1%64*64+b2%64,3)else(65533,1):=by
   unfold Lib.decodeN;rw[if_neg (by omega),if_neg (by omega),if_pos (by omega)]
  rw[hx];have hcb:b0%16*4096+b1%64*64+b2%64≤65535:=by omega
  generalize b0%16*4096+b1%64*64+b2%64=c at*
  by_cases hg:c≥2048∧(c<55296∨(57344≤c∧c≤1114111))
  ·rw[if_pos hg,if_neg (by simp)]
   refine⟨fun _=>rfl,fun hn=>?_⟩
   exfalso
   apply hn
   rw[hl,if_neg (by omega),if_neg (by omega),if_pos (by omega)]
   exact⟨by omega,rfl⟩
  ·exact c139
 ·have c1:=hc 1 (by omega) (by omega)
  have c2:=hc 2 (by omega) (by omega)
  have c3:=hc 3 (by omega) (by omega)
  rw[e1]at c1;rw[e2]at c2;rw[e3]at c3;have en:accN s i 3=((b0%8*262144+b1%64*4096+b2%64*64+b3%64:Nat):Int):=by rw[accN3,e0,e1,e2,e3];unfold leadN;rw[if_neg (by omega),if_neg (by omega)];omega
  rw[en];have hl:=hlen ((b0%8*262144+b1%64*4096+b2%64*64+b3%64:Nat):Int) (by omega) (by omega)
  have hx:Lib.decodeN (s.size-i) b0 b1 b2 b3=if b0%8*262144+b1%64*4096+b2%64*64+b3%64≥65536∧(b0%8*262144+b1%64*4096+b2%64*64+b3%64<55296∨(57344≤b0%8*262144+b1%64*4096+b2%64*64+b3%64∧b0%8*262144+b1%64*4096+b2%64*64+b3%64≤1114111))then(b0%8*262144+b1%64*4096+b2%64*64+b3%64,4)else(65533,1):=by
   unfold Lib.decodeN;rw[if_neg (by omega),if_neg (by omega),if_neg (by omega),if_pos (by omega)]
  rw[hx];generalize b0%8*262144+b1%64*4096+b2%64*64+b3%64=c at*
  by_cases hg:c≥65536∧(c<55296∨(57344≤c∧c≤1114111))
  ·rw[if_pos hg,if_neg (by simp)]
   refine⟨fun _=>rfl,fun hn=>?_⟩
   exfalso
   apply hn
   rw[hl,if_neg (by omega),if_neg (by omega),if_neg (by omega)]
   exact⟨by omega,rfl⟩
  ·exact c139
end Go.Proofs.YtogdknnkhkjmcaaGreatDoor
