/- Layer 10 (the document's answer): contract of is. -/
import Derived.Test.YtogdknnkhkjmcaaGreatDoorJRcB
namespace Go.Proofs.YtogdknnkhkjmcaaGreatDoor
open Go.RowKit
set_option linter.all false
def cmpL (cs:List Int)(a:Int):List Int→Nat→Bool×Bool
 | [],_=>(true,true)
 |c::C,k=>if(atL cs (a+2+k)).2=false then(false,false)else if(atL cs (a+2+k)).1≠c then(false,true)else cmpL cs a C (k+1)
def isL (cs:List Int)(a:Int)(key:ByteArray):Bool×Bool:=
 if(atL cs (a+1)).2=false then(false,false)else if(atL cs (a+1)).1≠(key.size:Int)then(false,true)else cmpL cs a (packC (bsL key)) 0
theorem atL_u32 {cs:List Int}(h:∀x∈cs,U32 x)(a:Int):U32 (atL cs a).1:=by
 unfold atL
 split
 ·rw[List.getD_eq_getElem?_getD]
  cases e:cs[a.toNat]? with
  |none=>exact⟨by decide,by decide⟩
  |some x=>exact h x (List.mem_of_getElem? e)
 ·exact⟨by decide,by decide⟩
set_option maxRecDepth 100000 in
set_option maxHeartbeats 2000000 in
theorem ref10_is (cs:List Int)(a:Int)(key:ByteArray)(A:Option Addr)(cp:Nat)(w:World)(K:Nat→Prop)(hb:∀b,K b→b<w.heap.size)(hsl:SlAt w K 1 (.slice A cs.length cp) cs.length (cs.map (Value.int .u32)))(hn:cs.length≤65536)(hu:∀x∈cs,U32 x)(ha:U32 a)(ht:key.size≤1000):
  Calls Tryz.prog 90 #[.slice A cs.length cp,I a,.string key] w fun e w'=>e= .returned (.tuple #[.bool (isL cs a key).1,.bool (isL cs a key).2])∧Keeps (· <w.heap.size) w w':=by
 have hat:=fun W (h:SlAt W K 1 (.slice A cs.length cp) cs.length (cs.map (Value.int .u32))) x=>ref10_at cs x A cp W K h hn;have hau:=fun x=>atL_u32 hu x;obtain⟨ha0,ha1⟩:=ha;have hw1:IntKind.i64.wrap (a+1)=a+1:=IntWalk.i64_in _ (by omega)
 have hw2:IntKind.i64.wrap (a+2)=a+2:=IntWalk.i64_in _ (by omega)
 obtain⟨res,hres⟩:∃r,r=isL cs a key:=⟨_,rfl⟩;rw[←hres];unfold isL at hres;have h1:=hat w hsl (a+1);have hu1:=hau (a+1);generalize atL cs (a+1)=x1 at*;obtain⟨n,ok⟩:=x1;dsimp only at hres h1 hu1;obtain⟨hu10,hu11⟩:=hu1;have Hat:=hid hat;have Hau:=hid hau;have Hb:=hid hb;have Hsl:=hid hsl;have Hu:=hid hu;have Hres:=hid hres;have H1:=hid h1;clear hat hau hb hsl hu hres h1
 refine calls_hide fun R' hR'=>?_
 go_enter Tryz.func90,Tryz.ntmps90
 go_wp2_with fail
 refine H1.out.mono ?_;rintro e w1 ⟨rfl,rfl⟩
 cases ok with
 |false=>
  have hr:res=(false,false):=by rw[Hres.out];rfl
  have Hr:=hid hr;clear hr
  go_wp2_with fail
  refine hR'.out _ _ ⟨?_,Keeps.refl _ _⟩;rw[Hr.out];rfl
 |true=>
  by_cases hne:n=(key.size:Int)
  ·have hnb:(n !=(key.size:Int))=false:=by simp[hne]
   have hr:res=cmpL cs a (packC (bsL key)) 0:=by rw[Hres.out,if_neg (by decide),if_neg (by simpa using hne)]
   clear hne Hres;have Hr:=hid hr;clear hr
   go_wp2_with fail
   refine(ref7_cells key (by omega) w1).mono ?_
   rintro e w2 ⟨v,rfl,hN1,hN2⟩;have hpl:(packC (bsL key)).length=(key.size+3)/4:=by rw[packC_len,bsL_len]
   generalize packC (bsL key)=C at*;obtain⟨A2,c2,rfl⟩:=ownB_form hN1;have hS2:=ownB_slAt hN1;have hsl2:=Hsl.out.keep hN2 Hb.out;clear hN1;have HS2:=hid hS2;have Hsl2:=hid hsl2;have HN2:=hid hN2;clear hS2 hsl2 hN2
   go_wp2_with fail
   go_loopw[35] (fun kv wx=>∃(k:Nat),kv=I (k:Int)∧k≤C.length∧Hid (res=cmpL cs a (C.drop k) k)∧w2=wx) (fun kv _=>C.length-(intOf kv).toNat)
   case atStart=>exact⟨0,rfl,Nat.zero_le _,Hr,rfl⟩
   case round=>
    clear Hr;obtain⟨k,rfl,hk,HE,rfl⟩:=hrel
    by_cases hlt:k<C.length
    ·have hltI:(k:Int)<(C.length:Int):=by omega
     have hC3:C.length≤300:=by omega
     obtain⟨x,hx⟩:∃x,C[k]? =some x:=⟨_,List.getElem?_eq_getElem hlt⟩;obtain⟨b3,o3,c3,hv,hb3,hc3⟩:=HS2.out.get k x hx;injection hv with e1 e2 e3
     subst e1 e3;have hex:=HE.out;rw[show C.drop k=x::C.drop (k+1) by
      obtain⟨h9,h8⟩:=List.getElem?_eq_some_iff.1 hx;rw[List.drop_eq_getElem_cons h9,h8]]at hex
     have hw3:IntKind.i64.wrap (a+2+(k:Int))=a+2+(k:Int):=IntWalk.i64_in _ (by omega)
     unfold cmpL at hex;have h1:=Hat.out w2 Hsl2.out (a+2+k);have hu2:=Hau.out (a+2+k);generalize atL cs (a+2+k)=x1 at*;obtain⟨y,ok2⟩:=x1;dsimp only at hex h1 hu2;obtain⟨hu20,hu21⟩:=hu2;clear hx HE hb3;have Hex:=hid hex;have H1:=hid h1;clear hex h1
     go_wp2_with fail
     refine H1.out.mono ?_;rintro e w4 ⟨rfl,rfl⟩
     cases ok2 with
     |false=>
      have hr:res=(false,false):=by rw[Hex.out];rfl
      exact c111
     |true=>
      by_cases hne2:y=x
      ·have hnb2:(y !=x)=false:=by simp[hne2]
       have hr:res=cmpL cs a (C.drop (k+1)) (k+1):=by rw[Hex.out,if_neg (by decide),if_neg (by simpa using hne2)]
       clear hne2 Hex;exact c122
      ·have hnb2:(y !=x)=true:=by simpa using hne2
       have hr:res=(false,true):=by rw[Hex.out,if_neg (by decide),if_pos hne2]
       clear hne2;exact c111
    ·obtain rfl:k=C.length:=by omega
     have hltI:¬(C.length:Int)<(C.length:Int):=by omega
     have hr:=HE.out;rw[List.drop_length]at hr;clear HE;exact c111
  ·have hnb:(n !=(key.size:Int))=true:=by simpa using hne
   have hr:res=(false,true):=by rw[Hres.out,if_neg (by decide),if_pos hne]
   clear hne;have Hr:=hid hr;clear hr
   go_wp2_with fail
   refine hR'.out _ _ ⟨?_,Keeps.refl _ _⟩;rw[Hr.out];rfl
def findL (cs:List Int)(s:Int)(n h:Nat)(key:ByteArray):Nat→Nat→Int×Int×Bool
 |0,_=>(0,-1,true)
 |f+1,i=>if(atL cs (s+(((h+i)%n:Nat):Int))).2=false then(0,0,false)else if(atL cs (s+(((h+i)%n:Nat):Int))).1=0 then(0,(((h+i)%n:Nat):Int),true)else
   if(isL cs (atL cs (s+(((h+i)%n:Nat):Int))).1 key).2=false then(0,0,false)else if(isL cs (atL cs (s+(((h+i)%n:Nat):Int))).1 key).1=true then((atL cs (s+(((h+i)%n:Nat):Int))).1,(((h+i)%n:Nat):Int),true)else findL cs s n h key f (i+1)
set_option maxRecDepth 100000 in
set_option maxHeartbeats 4000000 in
theorem ref10_find (cs:List Int)(s0:Int)(n:Nat)(key:ByteArray)(A:Option Addr)(cp:Nat)(w:World)(K:Nat→Prop)(hb:∀b,K b→b<w.heap.size)(hsl:SlAt w K 1 (.slice A cs.length cp) cs.length (cs.map (Value.int .u32)))(hcn:cs.length≤65536)(hu:∀x∈cs,U32 x)
  (hs:0≤s0∧s0≤65536) (hn:1≤n∧n≤65536) (ht:key.size≤1000):
  Calls Tryz.prog 61 #[.slice A cs.length cp,I s0,I n,.string key] w fun e w'=>
   e= .returned (.tuple #[I (findL cs s0 n (homeD n (bsL key)) key n 0).1,I (findL cs s0 n (homeD n (bsL key)) key n 0).2.1,.bool (findL cs s0 n (homeD n (bsL key)) key n 0).2.2])∧Keeps (· <w.heap.size) w w':=by
 have hat:=fun W (h:SlAt W K 1 (.slice A cs.length cp) cs.length (cs.map (Value.int .u32))) x=>ref10_at cs x A cp W K h hcn;have his:=fun W hb (h:SlAt W K 1 (.slice A cs.length cp) cs.length (cs.map (Value.int .u32))) x hx=>ref10_is cs x key A cp W K hb h hcn hu hx ht;have hau:=fun x=>atL_u32 hu x;obtain⟨s00,s01⟩:=hs;obtain⟨n0,n1⟩:=hn;have hhr:=hash_range (bsL key);have hhome:homeD n (bsL key)<n:=Nat.mod_lt _ (by omega)
 have hhe:hashL (bsL key)%(n:Int)=(homeD n (bsL key):Int):=by unfold homeD;rw[Int.natCast_emod,Int.toNat_of_nonneg hhr.1]
 generalize homeD n (bsL key)=ho at*;obtain⟨res,hres⟩:∃r,r=findL cs s0 n ho key n 0:=⟨_,rfl⟩;rw[←hres];have Hat:=hid hat;have His:=hid his;have Hau:=hid hau;have Hb:=hid hb;have Hsl:=hid hsl;have Hu:=hid hu;have Hres:=hid hres;have Hhe:=hid hhe;clear hat his hau hb hsl hu hres hhe;have hn1':¬(n:Int)<1:=by omega
 refine calls_hide fun R' hR'=>?_
 go_enter Tryz.func61,Tryz.ntmps61
 go_wp2_with fail
 refine(hash7 key (by omega) w).mono ?_
 rintro e w1 ⟨rfl,rfl⟩
 go_wp2_with fail
 have hww:wrap64 (hashL (bsL key)%(n:Int))=(ho:Int):=by rw[Hhe.out];unfold wrap64;omega
 rw[hww];clear hww hhr
 go_loopw[12] (fun iv wx=>∃(k:Nat),iv=I (k:Int)∧k≤n∧Hid (res=findL cs s0 n ho key (n-k) k)∧Hid (Keeps (· <w.heap.size) w wx)) (fun iv _=>n-(intOf iv).toNat)
 case atStart=>exact⟨0,rfl,Nat.zero_le _,Hres,hid (Keeps.refl _ _)⟩
 case round=>
  obtain⟨k,rfl,hk,HE,HK⟩:=hrel
  by_cases hlt:k<n
  ·have hltI:(k:Int)<(n:Int):=by omega
   have hex:=HE.out;have e:n-k=(n-(k+1))+1:=by omega
   rw[e]at hex;unfold findL at hex;clear e;have zz68:=@c382;exact c380
  ·obtain rfl:k=n:=by omega
   have hltI:¬(k:Int)<(k:Int):=by omega
   have hr:res=(0,-1,true):=by rw[HE.out,Nat.sub_self];rfl
   clear HE;have Hr:=hid hr;clear hr
   go_wp2_with fail
   refine hR'.out _ _ ⟨?_,HK.out⟩;exact c66
theorem atL_of {cs:List Int}{a:Int}{i:Nat}{x:Int}(ha:a=(i:Int))(h:cs[i]? =some x):atL cs a=(x,true):=by
 obtain⟨h1,h2⟩:=getD_of h;unfold atL;rw[if_pos ⟨by omega,by omega⟩,ha,Int.toNat_natCast,h2]
theorem cmpL_of {cs:List Int}{a:Nat}:∀(L2 L1:List Int) (k:Nat),L1.length=L2.length→(∀(j:Nat) c,L1[j]? =some c→cs[a+2+k+j]? =some c)→cmpL cs (a:Int) L2 k=(decide (L1=L2),true)
 | [],L1,k,hl,_=>by
  have:L1=[]:=List.length_eq_zero_iff.1 hl;subst this
  rfl
 |c::L2,[],k,hl,_=>by simp at hl
 |c::L2,d::L1,k,hl,h=>by
  have e:atL cs ((a:Int)+2+k)=(d,true):=atL_of (i:=a+2+k+0) (by omega) (h 0 d rfl)
  unfold cmpL;rw[e,if_neg (fun h=>Bool.noConfusion h)]
  by_cases hdc:d=c
  ·subst hdc;rw[if_neg (by simp),cmpL_of L2 L1 (k+1) (by simpa using hl) (fun j c hj=>by
    have:=h (j+1) c (by simpa using hj)
    rw[←this,show a+2+(k+1)+j=a+2+k+(j+1) by omega])]
   simp
  ·rw[if_pos hdc]
   simp[hdc]
theorem isL_of {cs:List Int}{s n:Nat}{t:Tab}{lo hi:Nat}(R:Rep cs s n t lo hi){i a:Nat}{k:List Int}(hi':i<n)(e:t i=some (k,a))(key:ByteArray):isL cs (a:Int) key=(decide (k=bsL key),true):=by
 obtain⟨r1,r2,r3,r4⟩:=R.lies _ _ _ hi' e;have h1:atL cs ((a:Int)+1)=((k.length:Int),true):=atL_of (i:=a+1) (by omega) (R.size _ _ _ hi' e)
 unfold isL;rw[h1,if_neg (fun h=>Bool.noConfusion h)]
 by_cases hl:k.length=key.size
 ·rw[if_neg (by simp[hl])]
  have hpl:(packC k).length=(packC (bsL key)).length:=by rw[packC_len,packC_len,bsL_len,hl]
  rw[cmpL_of (packC (bsL key)) (packC k) 0 hpl (fun j c hj=>R.key _ _ _ hi' e j c hj)];have:(packC k=packC (bsL key))↔(k=bsL key):=⟨fun h=>packC_inj r4 (bsL_range key) (by rw[hl,bsL_len]) h,fun h=>by rw[h]⟩
  simp[this]
 ·rw[if_pos (by simp;omega)]
  have:k≠bsL key:=fun h=>hl (by rw[h,bsL_len])
  simp[this]
theorem findL_of {cs:List Int}{s n:Nat}{t:Tab}{lo hi:Nat}(R:Rep cs s n t lo hi)(hn:0<n)(h:Nat)(key:ByteArray):∀(f i:Nat),findL cs (s:Int) n h key f i=((probe t n h (bsL key) f i).1,(probe t n h (bsL key) f i).2,true)
 |0,i=>rfl
 |f+1,i=>by
  have hlt:(h+i)%n<n:=Nat.mod_lt _ hn;have ih:=findL_of R hn h key f (i+1);unfold findL
  cases e:t ((h+i)%n)with
  |none=>
   have h1:atL cs ((s:Int)+(((h+i)%n:Nat):Int))=(0,true):=atL_of (i:=s+(h+i)%n) (by omega) (R.void _ hlt e)
   rw[h1,probe_none e]
   simp
  |some pr=>
   obtain⟨k,a⟩:=pr;obtain⟨r1,r2,r3,r4⟩:=R.lies _ _ _ hlt e;have hpos:=R.pos;have h1:atL cs ((s:Int)+(((h+i)%n:Nat):Int))=((a:Int),true):=atL_of (i:=s+(h+i)%n) (by omega) (R.slot _ _ _ hlt e)
   have h2:=isL_of R hlt e key;rw[h1];dsimp only;rw[h2,if_neg (fun h=>Bool.noConfusion h),if_neg (by omega)]
   by_cases hk:k=bsL key
   ·subst hk;rw[probe_hit e]
    simp
   ·rw[probe_miss e hk,ih]
    simp[hk]
theorem findD_cost {cs:List Int}{s n:Nat}{t:Tab}{lo hi:Nat}(R:Rep cs s n t lo hi)(hn:0<n)(h:Nat)(key:List Int)(hk:∀x∈key,Byte x):∀(f i:Nat),
  ∃cnt,cnt≤f*(2+(packC key).length)∧(findD s n h (packC key) key.length f i).ideal cs=some (probe t n h key f i,cs,cnt)
 |0,i=>⟨0,by omega,rfl⟩
 |f+1,i=>by
  have hlt:(h+i)%n<n:=Nat.mod_lt _ hn;obtain⟨cnt,hc,hi'⟩:=findD_cost R hn h key hk f (i+1);have hmul:(f+1)*(2+(packC key).length)=f*(2+(packC key).length)+(2+(packC key).length):=Nat.succ_mul _ _;rw[hmul];generalize f*(2+(packC key).length)=F at hc ⊢
  cases e:t ((h+i)%n)with
  |none=>
   refine⟨1,by omega,?_⟩
   rw[probe_none e];unfold findD;rw[load_ideal (i:=s+(h+i)%n) (by omega) (R.void _ hlt e)]
   rfl
  |some p=>
   obtain⟨k,a⟩:=p;obtain⟨r1,r2,r3,r4⟩:=R.lies _ _ _ hlt e;have hpos:=R.pos;unfold findD;rw[load_ideal (i:=s+(h+i)%n) (by omega) (R.slot _ _ _ hlt e)]
   have step2:(Tree.load ((a:Int)+1) fun ln=>if ln≠(key.length:Int)then findD s n h (packC key) key.length f (i+1)else
     (cmpD a (packC key) 0).bind fun ok=>if ok=true then .ret ((a:Int),(((h+i)%n:Nat):Int))else findD s n h (packC key) key.length f (i+1)).ideal cs=
     ((if(k.length:Int)≠(key.length:Int)then findD s n h (packC key) key.length f (i+1)else
     (cmpD a (packC key) 0).bind fun ok=>if ok=true then .ret ((a:Int),(((h+i)%n:Nat):Int))else findD s n h (packC key) key.length f (i+1)).ideal cs).map fun y=>(y.1,y.2.1,y.2.2+1):=
    load_ideal (i:=a+1) (by omega) (R.size _ _ _ hlt e)
   have hz:((a:Int)=0)=False:=by simp;omega
   have inner:∃c2,c2≤F+1+(packC key).length∧(Tree.load ((a:Int)+1) fun ln=>if ln≠(key.length:Int)then findD s n h (packC key) key.length f (i+1)else
     (cmpD a (packC key) 0).bind fun ok=>if ok=true then .ret ((a:Int),(((h+i)%n:Nat):Int))else findD s n h (packC key) key.length f (i+1)).ideal cs=some (probe t n h key (f+1) i,cs,c2):=by
    rw[step2]
    by_cases hl:k.length=key.length
    ·rw[if_neg (by simp[hl])]
     have hpl:(packC k).length=(packC key).length:=by rw[packC_len,packC_len,hl]
     obtain⟨m,hm,hmi⟩:=cmpD_ideal (cs:=cs) (a:=a) (packC key) (packC k) 0 hpl (fun j c hj=>R.key _ _ _ hlt e j c hj);rw[Tree.ideal_bind,hmi];exact c98
    ·rw[if_pos (by omega),hi',probe_miss e (fun e=>hl (by rw[e]))]
     exact⟨cnt+1,by omega,rfl⟩
   obtain⟨c2,h1,h2⟩:=inner;refine⟨c2+1,by omega,?_⟩
   have:((fun a:Int=>Tree.off fun o=>if o=true then .ret ((0:Int),(-1:Int))else if a=0 then .ret ((0:Int),(((h+i)%n:Nat):Int))else
    .load (a+1) fun ln=>if ln≠(key.length:Int)then findD s n h (packC key) key.length f (i+1)else
    (cmpD a (packC key) 0).bind fun ok=>if ok=true then .ret (a,(((h+i)%n:Nat):Int))else findD s n h (packC key) key.length f (i+1)) (a:Int)).ideal cs=some (probe t n h key (f+1) i,cs,c2):=by
    show(if false=true then _ else if(a:Int)=0 then _ else _:Tree (Int×Int)).ideal cs=_
    rw[if_neg (by decide),if_neg (by rw[hz];exact id)]
    exact h2
   rw[this];rfl
theorem findK_ideal {cs:List Int}{s n:Nat}{t:Tab}{lo hi:Nat}(R:Rep cs s n t lo hi)(hn:0<n)(key:ByteArray):∃cnt,cnt≤n*(2+(key.size+3)/4)∧
  (findK (s:Int) n key).ideal cs=some (probe t n (homeD n (bsL key)) (bsL key) n 0,cs,cnt):=by
 obtain⟨cnt,h1,h2⟩:=findD_cost R hn (homeD n (bsL key)) (bsL key) (bsL_range key) n 0;rw[packC_len,bsL_len]at h1;rw[bsL_len]at h2;exact⟨cnt,h1,h2⟩
end Go.Proofs.YtogdknnkhkjmcaaGreatDoor
