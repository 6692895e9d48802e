/- Own rows that grow: what is kept, what lies where. No function of the dump is named here. -/
import Derived.Test.YtogdknnkhkjmcaaGreatDoorJRcA
namespace Go.Proofs.YtogdknnkhkjmcaaGreatDoor
open Go.RowKit
set_option linter.all false
theorem info_partsF {P:Program}{t:TypeId}{z:Value}{a b:Nat}(h:(P.info? t).map (fun i=>(i.zero,i.size,i.bytes))=some (some z,a,b)):∃i,P.info? t=some i∧i.zero=some z∧i.size=a∧i.bytes=b:=by
 obtain⟨i,h1,h2⟩:=Option.map_eq_some_iff.1 h;simp only[Prod.mk.injEq]at h2;exact⟨i,h1,h2.1,h2.2.1,h2.2.2⟩
def NewRow (w0 w:World)(E:TypeId)(f:Int→Value)(v:Value)(xs:List Int):Prop:=w.ownsRow w0.heap.size E 1 v xs.length (xs.map f)∧Keeps (· <w0.heap.size) w0 w
theorem NewRow.empty (w:World)(E T:TypeId)(f:Int→Value)(hT:T=E):NewRow w (w.alloc (.cells #[] T)) E f (.slice (some ⟨w.heap.size,0,none⟩) 0 0) []:=
 ⟨⟨rfl,Or.inr ⟨w.heap.size,0,#[],rfl,Nat.le_refl _,by rw[heap_alloc_new,hT],Nat.le_refl _,Nat.zero_le _,rfl,rfl⟩⟩,(Keeps.refl _ _).alloc (fun b hb=>hb) _⟩
theorem ownB_form {w:World}{B E n sz:Nat}{v:Value}{xs:List Value}(h:w.ownsRow B E sz v n xs):∃A cp,v= .slice A n cp:=by
 rcases h.2 with⟨h1,h2⟩|⟨b,cap,_,h1,_⟩
 ·exact⟨_,_,by rw[h1,h2]⟩
 ·exact⟨_,_,h1⟩
theorem ownB_lt {w:World}{B E n sz:Nat}{v:Value}{xs:List Value}(h:w.ownsRow B E sz v n xs){b:Nat}(hb:v.ownBlock=some b):B≤b∧b<w.heap.size:=by
 rcases h.2 with⟨h1,_⟩|⟨g,cap,cur,h1,h2,h3,_⟩
 ·rw[h1]at hb;cases hb
 ·rw[h1]at hb;have:g=b:=by simpa[Value.ownBlock]using hb
  subst this;exact⟨h2,(Array.getElem?_eq_some_iff.1 h3).1⟩
theorem ownB_keep {w w':World}{B E n sz:Nat}{v:Value}{xs:List Value}{K:Nat→Prop}(h:w.ownsRow B E sz v n xs)(k:Keeps K w w')(hK:∀b,B≤b→b<w.heap.size→v.ownBlock=some b→K b):w'.ownsRow B E sz v n xs:=by
 refine⟨h.1,?_⟩
 rcases h.2 with h1|⟨g,cap,cur,h1,h2,h3,h4⟩
 ·exact Or.inl h1
 ·have hb:v.ownBlock=some g:=by rw[h1];rfl
  exact Or.inr ⟨g,cap,cur,h1,h2,by rw[k.block g (hK g h2 (ownB_lt h hb).2 hb)];exact h3,h4⟩
theorem ownB_slAt {w:World}{B E n:Nat}{v:Value}{xs:List Value}(h:w.ownsRow B E 1 v n xs):SlAt w (fun b=>B≤b∧b<w.heap.size) 1 v n xs:=by
 exact c74
theorem keeps_grown {w0 w w':World}{B:Nat}{v:Value}{E n sz:Nat}{xs:List Value}(hk:Keeps (· <B) w0 w)(hB:B≤w.heap.size)(h:w.ownsRow B E sz v n xs)(hg:w.grownBy w' v.ownBlock):Keeps (· <B) w0 w':=
 hk.trans ⟨hg.os,hg.tape,hg.output,hg.size,fun b hb=>hg.block b (by omega) (fun e=>by have:=(ownB_lt h e.symm).1;omega)⟩
theorem NewRow.push {w0 wr w':World}{E T:TypeId}{f:Int→Value}{v v':Value}{acc:List Int}{x:Int}(h:NewRow w0 wr E f v acc)(hown:w'.ownsRow w0.heap.size E 1 v' (acc.length+1)(acc.map f++[f x]))(hg:(wr.alloc (.cells #[f x] T)).grownBy w' v.ownBlock):NewRow w0 w' E f v' (acc++[x]):=by
 refine⟨by simpa using hown,?_⟩
 have hB:=h.2.size;exact keeps_grown (h.2.alloc (fun b hb=>by omega) _) (by simp;omega) (h.1.alloc _) hg
theorem own_news {w:World}{B E n:Nat}{g:Nat}{cap:Nat}{xs:List Value}(h:w.ownsRow B E 1 (.slice (some ⟨g,0,none⟩) n cap) n xs):∀j u,xs[j]? =some u→w.cell? ((⟨g,0,none⟩:Addr).add j)=some u:=fun j u hu=>h.cells (g:=g) rfl j u hu
theorem ownB_pos {w:World}{B E n:Nat}{v:Value}{xs:List Value}(h:w.ownsRow B E 1 v n xs)(hn:0<n):∃g cap,v= .slice (some ⟨g,0,none⟩) n cap:=by
 rcases h.2 with⟨_,h2⟩|⟨g,cap,_,h1,_⟩
 ·omega
 ·exact⟨g,cap,h1⟩
structure Two (B:Nat)(w0 w:World)(E1:TypeId)(s1:Nat)(v1:Value)(n1:Nat)(xs1:List Value)(E2:TypeId)(s2:Nat)(v2:Value)(n2:Nat)(xs2:List Value):Prop where
 o1:w.ownsRow B E1 s1 v1 n1 xs1
 o2:w.ownsRow B E2 s2 v2 n2 xs2
 ne:∀y,v1.ownBlock=some y→v2.ownBlock≠some y
 keeps:Keeps (· <B) w0 w
 le:B≤w.heap.size
theorem ownB_keepS {w w':World}{B:Nat}{E:TypeId}{n sz:Nat}{v:Value}{xs:List Value}(h:w.ownsRow B E sz v n xs)(k:Keeps (· <w.heap.size) w w'):w'.ownsRow B E sz v n xs:=ownB_keep h k fun b _ hb _=>hb
theorem own_grown {w w':World}{B:Nat}{E:TypeId}{n sz:Nat}{v:Value}{xs:List Value}{o:Option Nat}(h:w.ownsRow B E sz v n xs)(hg:w.grownBy w' o)(hne:∀y,v.ownBlock=some y→o≠some y):w'.ownsRow B E sz v n xs:=
 ownB_keep (K:=fun b=>b<w.heap.size∧some b≠o) h ⟨hg.os,hg.tape,hg.output,hg.size,fun b hb=>hg.block b hb.1 hb.2⟩ fun b _ hb ho=>⟨hb,fun e=>hne b ho e.symm⟩
theorem own_lit (w:World)(B:Nat)(E T:TypeId)(sz n:Nat)(xs:List Value)(hT:T=E)(hn:xs.length=n*sz)(hm:n≤maxLen)(hB:B≤w.heap.size):(w.alloc (.cells xs.toArray T)).ownsRow B E sz (.slice (some ⟨w.heap.size,0,none⟩) n n) n xs:=
 ⟨hn,Or.inr ⟨w.heap.size,n,xs.toArray,rfl,hB,by rw[heap_alloc_new,hT],Nat.le_refl _,hm,by simpa using hn,by simp[List.take_of_length_le (show xs.length≤n*sz by omega)]⟩⟩
section
variable {B:Nat}{w0 w w2 w':World}{E1 E2:TypeId}{s1 s2 n1 n2 n':Nat}{v1 v2 v':Value}{xs1 xs2 ys:List Value}
theorem Two.swap (h:Two B w0 w E1 s1 v1 n1 xs1 E2 s2 v2 n2 xs2):Two B w0 w E2 s2 v2 n2 xs2 E1 s1 v1 n1 xs1:=⟨h.o2,h.o1,fun y h1 h2=>h.ne y h2 h1,h.keeps,h.le⟩
end
section
variable {B:Nat}{w0 w w2 w':World}{E1 E2:TypeId}{s1 s2 n1 n2 n':Nat}{v1 v2 v':Value}{xs1 xs2 ys:List Value}
theorem Two.calls (h:Two B w0 w E1 s1 v1 n1 xs1 E2 s2 v2 n2 xs2)(k:Keeps (· <w.heap.size) w w2):Two B w0 w2 E1 s1 v1 n1 xs1 E2 s2 v2 n2 xs2:=
 ⟨ownB_keepS h.o1 k,ownB_keepS h.o2 k,h.ne,h.keeps.trans (k.mono fun b hb=>by have:=h.le;omega),Nat.le_trans h.le k.size⟩
end
section
variable {B:Nat}{w0 w w2 w':World}{E1 E2:TypeId}{s1 s2 n1 n2 n':Nat}{v1 v2 v':Value}{xs1 xs2 ys:List Value}
theorem Two.alloc (h:Two B w0 w E1 s1 v1 n1 xs1 E2 s2 v2 n2 xs2)(c:Obj):Two B w0 (w.alloc c) E1 s1 v1 n1 xs1 E2 s2 v2 n2 xs2:=h.calls ((Keeps.refl _ _).alloc (fun b hb=>hb) _)
end
section
variable {B:Nat}{w0 w w2 w':World}{E1 E2:TypeId}{s1 s2 n1 n2 n':Nat}{v1 v2 v':Value}{xs1 xs2 ys:List Value}
theorem Two.app (h:Two B w0 w2 E1 s1 v1 n1 xs1 E2 s2 v2 n2 xs2)(hown:w'.ownsRow B E1 s1 v' n' ys)(hg:w2.grownBy w' v1.ownBlock)(hf:v'.ownBlock=v1.ownBlock∨v'.ownBlock=some w2.heap.size):Two B w0 w' E1 s1 v' n' ys E2 s2 v2 n2 xs2:=by
 refine⟨hown,own_grown h.o2 hg (fun y h1 h2=>h.ne y h2 h1),?_,keeps_grown h.keeps h.le h.o1 hg,Nat.le_trans h.le hg.size⟩;intro y hy
 rcases hf with e|e
 ·exact h.ne y (by rw[←e];exact hy)
 ·intro h2;rw[e]at hy;injection hy with hy
  have:=(ownB_lt h.o2 h2).2
  omega
end
theorem one1 (k:IntKind)(x:Int):∀u∈[Value.int k x],u.oneCell'=true:=by intro u hu;rcases List.mem_singleton.1 hu with rfl;rfl
theorem ownB_slAtS {w:World}{B:Nat}{E:TypeId}{n sz:Nat}{v:Value}{xs:List Value}(h:w.ownsRow B E sz v n xs):SlAt w (fun b=>B≤b∧b<w.heap.size) sz v n xs:=by
 exact c74
theorem own_newsS {w:World}{B E n sz:Nat}{g:Nat}{cap:Nat}{xs:List Value}(h:w.ownsRow B E sz (.slice (some ⟨g,0,none⟩) n cap) n xs):∀j u,xs[j]? =some u→w.cell? ((⟨g,0,none⟩:Addr).add j)=some u:=fun j u hu=>h.cells (g:=g) rfl j u hu
theorem ownB_posS {w:World}{B E n sz:Nat}{v:Value}{xs:List Value}(h:w.ownsRow B E sz v n xs)(hn:0<n):∃g cap,v= .slice (some ⟨g,0,none⟩) n cap:=by
 rcases h.2 with⟨_,h2⟩|⟨g,cap,_,h1,_⟩
 ·omega
 ·exact⟨g,cap,h1⟩
theorem own_slAtL {w:World}{B:Nat}{E:TypeId}{n sz:Nat}{v:Value}{xs:List Value}(h:w.ownsRow B E sz v n xs):SlAt w (fun b=>v.ownBlock=some b) sz v n xs:=by
 have hl:=h.1
 rcases h.2 with⟨h1,h2⟩|⟨b,cap,cur,h1,h0,h3,h4,h5,h6,h7⟩
 ·exact⟨none,0,by rw[h1,h2],by omega,Nat.zero_le _,hl,fun hn=>by omega⟩
 ·refine⟨some ⟨b,0,none⟩,cap,h1,h4,h5,hl,fun hn=>⟨b,0,rfl,by rw[h1];rfl,fun j u hu=>?_⟩⟩
  exact c453
theorem SlAt.of_blkS {w:World}{K:Nat→Prop}{b n sz:Nat}{xs:List Value}(h:Blk w b xs)(hK:K b)(hl:xs.length=n*sz)(hn:n≤maxLen):SlAt w K sz (.slice (some ⟨b,0,none⟩) n n) n xs:=
 ⟨_,_,rfl,Nat.le_refl _,hn,hl,fun _=>⟨b,0,rfl,hK,fun j u hu=>by rw[Nat.zero_add,h.cell];exact hu⟩⟩
def pv (l:List Int)(m i:Nat):Nat→Int
 |0=>0
 |j+1=>pv l m i j*256+(if i+(3-j)<m then l.getD (i+(3-j)) 0 else 0)
theorem pv_bound {l:List Int}(h:∀x∈l,0≤x∧x≤255)(m i:Nat):∀j,j≤4→0≤pv l m i j∧pv l m i j<256^j
 |0,_=>by simp[pv]
 |j+1,hj=>by
  obtain⟨h0,h1⟩:=pv_bound h m i j (by omega)
  have hb:0≤(if i+(3-j)<m then l.getD (i+(3-j)) 0 else 0)∧(if i+(3-j)<m then l.getD (i+(3-j)) 0 else 0)≤255:=by
   split
   ·rw[List.getD_eq_getElem?_getD]
    cases hg:l[i+(3-j)]? with
    |none=>simp
    |some x=>exact h x (List.mem_of_getElem? hg)
   ·simp
  unfold pv;rw[Int.pow_succ]
  omega
theorem pv_all (l:List Int)(m q:Nat):pv l m (4*q) 4=pc l m q:=by
 simp only[pv,pc]
 simp
 omega
set_option maxRecDepth 100000 in
set_option maxHeartbeats 2000000 in
theorem ref7_cells (t:ByteArray)(ht:t.size≤1099511627776)(w:World):Calls Tryz.prog 62 #[.string t] w fun e w'=>∃v,e= .returned v∧NewRow w w' 32 (Value.int .u32) v (packC (bsL t)):=by
 refine calls_hide fun R' hR'=>?_
 go_enter Tryz.func62,Tryz.ntmps62
 go_wp2_with fail
 go_loopw[3,4] (fun ov iv wr=>∃(q:Nat) (A:Option Addr) (cp:Nat),ov= .slice A (pcs (bsL t) q t.size).length cp∧iv=I (4*(q:Int))∧q≤(t.size+3)/4∧Hid (NewRow w wr 32 (Value.int .u32) (.slice A (pcs (bsL t) q t.size).length cp) (pcs (bsL t) q t.size))) (fun _ iv _=>t.size+4-(intOf iv).toNat)
 case atStart=>exact⟨0,_,0,rfl,rfl,Nat.zero_le _,hid (NewRow.empty _ _ _ _ rfl)⟩
 case round=>
  obtain⟨q,A,cp,rfl,rfl,hq,HR⟩:=hrel
  by_cases hlt:4*q<t.size
  ·have hltI:4*(q:Int)<(t.size:Int):=by omega
   go_wp2_with fail
   go_loopw[5,6] (fun nv kv wk=>∃(z:Int),nv=J (pv (bsL t) t.size (4*q) (3-z).toNat)∧kv=I z∧-1≤z∧z≤3∧wr=wk) (fun _ kv _=>(intOf kv+1).toNat)
   case atStart=>exact⟨3,rfl,rfl,by omega,by omega,rfl⟩
   case round=>
    rename World=>wk
    obtain⟨z,rfl,rfl,hz0,hz1,rfl⟩:=hrel
    by_cases hz:0≤z
    ·obtain⟨k,rfl⟩:=Int.eq_ofNat_of_zero_le hz;obtain⟨j,hj⟩:∃j,j=(3-(k:Int)).toNat:=⟨_,rfl⟩;have hj3:j≤3:=by omega
     have hkj:k=3-j:=by omega
     have hb:=pv_bound (fun x hx=>bsL_range t x hx) t.size (4*q) j (by omega)
     have hb2:pv (bsL t) t.size (4*q) j<16777216:=by
      rcases(by omega:j=0∨j=1∨j=2∨j=3)with rfl|rfl|rfl|rfl<;>(simp at hb;omega)
     have hb1:=hb.1;have hnx:pv (bsL t) t.size (4*q) (j+1)=pv (bsL t) t.size (4*q) j*256+(if 4*q+(3-j)<t.size then(bsL t).getD (4*q+(3-j)) 0 else 0):=rfl
     rw[←hkj]at hnx;rw[←hj];generalize pv (bsL t) t.size (4*q) j=pj at*
     by_cases hin:4*q+k<t.size
     ·have hinI:4*(q:Int)+(k:Int)<(t.size:Int):=by omega
      rw[if_pos hin,bsL_get t _ hin]at hnx;have hby:t[4*q+k].toNat≤255:=by have:=t[4*q+k].toNat_lt;omega
      have hq0:(0:Int)≤4*(q:Int)+(k:Int):=by omega
      have Hnx:=hid hnx;have Hj:=hid hj;have Hkj:=hid hkj;clear hnx hj hkj;clear hb
      go_wp2_with fail
      go_roundw
      case rel=>exact⟨(k:Int)-1,by rw[show(3-((k:Int)-1)).toNat=j+1 by have:=Hj.out;omega,Hnx.out],rfl,by omega,by omega,by first|trivial|rfl⟩
      case measure=>exact msA
     ·have hinI:¬4*(q:Int)+(k:Int)<(t.size:Int):=by omega
      rw[if_neg hin]at hnx;have Hnx:=hid hnx;have Hj:=hid hj;have Hkj:=hid hkj;clear hnx hj hkj;clear hb hin
      go_wp2_with fail
      go_roundw
      case rel=>exact⟨(k:Int)-1,by rw[show(3-((k:Int)-1)).toNat=j+1 by have:=Hj.out;omega,Hnx.out];simp,rfl,by omega,by omega,by first|trivial|rfl⟩
      case measure=>exact msA
    ·obtain rfl:z= -1:=by omega
     have hBs:=HR.out.2.size;have hlb:(pcs (bsL t) q t.size).length≤1099511627776:=by rw[pcs_len];omega
     rw[show(3-(-1:Int)).toNat=4 from rfl,pv_all]
     obtain⟨i0,hi,hz0,hz1,hz2⟩:=info_partsF Tryz.infoU
     go_wp2_with (at_builtin;refine wpList_append_own _ rfl _ _ 47 rfl (w.heap.size) 32 i0 (J 0) 1 4 Tryz.underlying47 hi hz0 hz1 hz2 rfl (by decide) (.slice A (pcs (bsL t) q t.size).length cp) (pcs (bsL t) q t.size).length ((pcs (bsL t) q t.size).map (Value.int .u32)) rfl (HR.out.1.alloc _) ⟨wr.heap.size,0,none⟩ 1 1 [J (pc (bsL t) t.size q)] rfl rfl ?_ ?_ ?_ ?_ ?_ ?_)
     all_goals(try(first|(intro j u hj;rcases j with _|j;(· simpa[Addr.add]using hj);(· simp at hj))|(intro u hu;simp at hu;rcases hu with rfl;rfl)|(with_reducible rfl)|rfl|(unfold maxLen;omega)|omega|(simp;omega)|(simp;done)))
     intro v' w6 hown hgr _;have hN:=HR.out.push hown hgr;have hp:pcs (bsL t) q t.size++[pc (bsL t) t.size q]=pcs (bsL t) (q+1) t.size:=by unfold pcs;rw[List.range_succ,List.map_append];rfl
     have hl1:(pcs (bsL t) q t.size).length+1=(pcs (bsL t) (q+1) t.size).length:=by rw[pcs_len,pcs_len]
     rw[hl1]at hown;obtain⟨A',cp',rfl⟩:=ownB_form hown;rw[hp]at hN;clear hown hgr hi hz0 hz1 hz2 HR hp hl1;have HN:=hid hN;clear hN
     go_wp2_with fail
     go_roundw
     case rel=>exact⟨q+1,A',cp',rfl,by go_num,by omega,HN⟩
     case measure=>exact msA
  ·obtain rfl:q=(t.size+3)/4:=by omega
   have hltI:¬4*(((t.size+3)/4:Nat):Int)<(t.size:Int):=by omega
   go_wp2_with fail
   refine hR'.out _ _ ⟨_,rfl,?_⟩;have e:packC (bsL t)=pcs (bsL t) ((t.size+3)/4) t.size:=by unfold packC;rw[bsL_len]
   rw[e];exact HR.out
theorem bits_xor64 (x y:Int)(hx:0≤x∧x≤4294967295)(hy:0≤y∧y≤255):
  bits .xor .u64 x y=((Nat.xor x.toNat y.toNat:Nat):Int)∧Nat.xor x.toNat y.toNat<4294967296:=by
 obtain⟨x,rfl⟩:=Int.eq_ofNat_of_zero_le hx.1;obtain⟨y,rfl⟩:=Int.eq_ofNat_of_zero_le hy.1;have hle:Nat.xor x y<2^32:=Nat.xor_lt_two_pow (by omega) (by omega)
 have e:(BitVec.ofInt 64 (x:Int)^^^BitVec.ofInt 64 (y:Int)).toNat=Nat.xor x y:=by
  rw[BitVec.toNat_xor,BitVec.toNat_ofInt,BitVec.toNat_ofInt];have e1:((x:Int)%((2^64:Nat):Int)).toNat=x:=by omega
  have e2:((y:Int)%((2^64:Nat):Int)).toNat=y:=by omega
  rw[e1,e2];rfl
 refine⟨?_,hle⟩;show IntKind.u64.wrap ((BitVec.ofInt 64 (x:Int)^^^BitVec.ofInt 64 (y:Int)).toNat:Int)=_;rw[e];show((Nat.xor x y:Nat):Int)%18446744073709551616=_;simp only[Int.toNat_natCast]
 omega
set_option maxHeartbeats 1000000 in
theorem hash7 (t:ByteArray)(ht:t.size≤140737488351232)(w:World):
  Calls Tryz.prog 89 #[.string t] w fun e w'=>e= .returned (J (hashL (bsL t)))∧w=w':=by
 refine calls_hide fun R' hR'=>?_
 go_enter Tryz.func89,Tryz.ntmps89
 go_wp2_with fail
 go_loop [3,4] (fun h i=>∃k:Nat,i=I k∧k≤t.size∧h= .int .u64 (hashL ((bsL t).take k))) (fun _ i=>t.size-(intOf i).toNat)
 case atStart=>exact⟨0,rfl,Nat.zero_le _,rfl⟩
 case round=>
  obtain⟨k,rfl,hk,rfl⟩:=hrel;have hr:=hash_range ((bsL t).take k)
  by_cases hlt:k<t.size
  ·have hby:0≤(t[k].toNat:Int)∧(t[k].toNat:Int)≤255:=by have:=t[k].toNat_lt;omega
   have hx:=(bits_xor64 (hashL ((bsL t).take k)) (t[k].toNat:Int) hr hby);obtain⟨hx,hxl⟩:=hx;have hst:hashL ((bsL t).take (k+1))=hashStep (hashL ((bsL t).take k)) (t[k].toNat:Int):=by
    rw[hash_take _ _ (by rw[bsL_len];exact hlt),bsL_get t k hlt]
   unfold hashStep at hst;generalize hashL ((bsL t).take k)=h at*;obtain⟨h0,h1⟩:=hr;obtain⟨g0,g1⟩:=hby;have i3:(k:Int)<(t.size:Int):=by omega
   generalize Nat.xor h.toNat (Int.toNat↑t[k].toNat)=xo at*;have hxo:(xo:Int)≤4294967295:=by omega
   have Hst:=hid hst;clear hst
   go_wp2_with fail
   go_round
   case rel=>exact⟨k+1,by go_num,by omega,by rw[Hst.out]⟩
   case measure=>simp[intOf];omega
  ·have hkn:k=t.size:=by omega
   subst hkn;rw[List.take_of_length_le (by rw[bsL_len];omega)]at hr
   rw[List.take_of_length_le (by rw[bsL_len];omega)]
   generalize hashL (bsL t)=h at*;obtain⟨h0,h1⟩:=hr;exact c90
end Go.Proofs.YtogdknnkhkjmcaaGreatDoor
