/- The reference of layer 12 (write): contract of Keys. -/
import Derived.Test.YtogdknnkhkjmcaaGreatDoorJRcJ
namespace Go.Proofs.YtogdknnkhkjmcaaGreatDoor
open Go.RowKit
set_option linter.all false
theorem Tryz.infoStrP:(Tryz.prog.info? 9).map (fun i=>(i.zero,i.size,i.bytes))=some (some (.string ⟨#[]⟩),1,16):=by kernel_rfl
theorem Tryz.infoIntP:(Tryz.prog.info? 3).map (fun i=>(i.zero,i.size,i.bytes))=some (some (I 0),1,8):=by kernel_rfl
abbrev KcI:Type:=ByteArray×Int
def kcIx (key:ByteArray)(l:List KcI):Nat:=l.findIdx fun t=>t.1.toList==key.toList
def keysL:List TokI→List KcI→List KcI
 | [],acc=>acc
 |x::l,acc=>match acc[kcIx (keyB x.1 x.2.1) acc]? with
  |some p=>keysL l (acc.set (kcIx (keyB x.1 x.2.1) acc) (p.1,p.2+1))
  |none=>keysL l (acc++[(keyB x.1 x.2.1,1)])
def kStr (l:List KcI):List Value:=l.map fun p=>Value.string p.1
def kInt (l:List KcI):List Value:=l.map fun p=>Value.int .i64 p.2
def KUniq (l:List KcI):Prop:=∀(i j:Nat) (p q:KcI),l[i]? =some p→l[j]? =some q→(p.1.toList==q.1.toList)=true→i=j
theorem kcIx_at {key:ByteArray}{l:List KcI}(hu:KUniq l){i:Nat}{p:KcI}(h:l[i]? =some p)(he:(p.1.toList==key.toList)=true):kcIx key l=i:=by
 obtain⟨hi,hp⟩:=List.getElem?_eq_some_iff.1 h;have hlt:kcIx key l<l.length:=List.findIdx_lt_length_of_exists ⟨p,List.mem_of_getElem? h,he⟩;have hh:(l[kcIx key l].1.toList==key.toList)=true:=List.findIdx_getElem (p:=fun t:KcI=>t.1.toList==key.toList) (w:=hlt);refine hu _ _ _ _ (List.getElem?_eq_getElem hlt) h ?_;simp only[beq_iff_eq]at hh he ⊢;rw[hh,he]
theorem kcIx_none {key:ByteArray}{l:List KcI}(hn:∀(j:Nat)(p:KcI),l[j]? =some p→(p.1.toList==key.toList)=false):l[kcIx key l]? =none:=by
 have:kcIx key l=l.length:=by
  unfold kcIx;rw[List.findIdx_eq_length];intro x hx;obtain⟨j,hj,rfl⟩:=List.getElem_of_mem hx;rw[hn j _ (List.getElem?_eq_getElem hj)]
 rw[this,List.getElem?_eq_none (Nat.le_refl _)]
theorem KUniq.set {l:List KcI}(hu:KUniq l){i:Nat}{p:KcI}(h:l[i]? =some p)(c:Int):KUniq (l.set i (p.1,c)):=by
 have key:∀(k:Nat) (q:KcI),(l.set i (p.1,c))[k]? =some q→∃q':KcI,l[k]? =some q'∧q'.1=q.1:=fun k q hq=>by
  by_cases e:k=i
  ·subst e;rw[List.getElem?_set_self (List.getElem?_eq_some_iff.1 h).1]at hq;injection hq with hq
   exact⟨p,h,by rw[←hq]⟩
  ·rw[List.getElem?_set_ne (fun h=>e h.symm)]at hq;exact⟨q,hq,rfl⟩
 intro a b q1 q2 h1 h2 h3;obtain⟨r1,g1,e1⟩:=key a q1 h1;obtain⟨r2,g2,e2⟩:=key b q2 h2;exact hu a b r1 r2 g1 g2 (by rw[e1,e2];exact h3)
theorem KUniq.app {l:List KcI}(hu:KUniq l){key:ByteArray}(hn:∀(j:Nat)(p:KcI),l[j]? =some p→(p.1.toList==key.toList)=false):KUniq (l++[(key,1)]):=by
 intro a b q1 q2 h1 h2 h3
 rcases Nat.lt_or_ge a l.length with ha|ha
 ·rw[List.getElem?_append_left ha]at h1
  rcases Nat.lt_or_ge b l.length with hb|hb
  ·rw[List.getElem?_append_left hb]at h2;exact hu a b q1 q2 h1 h2 h3
  ·rw[List.getElem?_append_right hb]at h2;have hb0:b-l.length=0:=by
    by_cases e:b-l.length=0
    ·exact e
    ·rw[List.getElem?_eq_none (by simp;omega)]at h2;cases h2
   rw[hb0]at h2;injection h2 with h2
   rw[←h2,hn a q1 h1]at h3
   cases h3
 ·rw[List.getElem?_append_right ha]at h1;have ha0:a-l.length=0:=by
   by_cases e:a-l.length=0
   ·exact e
   ·rw[List.getElem?_eq_none (by simp;omega)]at h1;cases h1
  rw[ha0]at h1;injection h1 with h1
  rcases Nat.lt_or_ge b l.length with hb|hb
  ·rw[List.getElem?_append_left hb]at h2;have h4:=hn b q2 h2;rw[←h1]at h3;simp only[beq_iff_eq]at h3;rw[←h3]at h4
   simp at h4
  ·rw[List.getElem?_append_right hb]at h2;have hb0:b-l.length=0:=by
    by_cases e:b-l.length=0
    ·exact e
    ·rw[List.getElem?_eq_none (by simp;omega)]at h2;cases h2
   omega
theorem keysL_len:∀(l:List TokI) (acc:List KcI),(keysL l acc).length≤acc.length+l.length
 | [],acc=>Nat.le_refl _
 |x::l,acc=>by
  unfold keysL;rw[List.length_cons]
  split
  ·have h2:=fun p=>keysL_len l (acc.set (kcIx (keyB x.1 x.2.1) acc) p);refine Nat.le_trans (h2 _) ?_;rw[List.length_set];omega
  ·refine Nat.le_trans (keysL_len l _) ?_;rw[List.length_append];simp;omega
set_option maxRecDepth 100000 in
set_option maxHeartbeats 4000000 in
theorem ref12_keys (toks:List TokI)(A:Option Addr)(cp:Nat)(w:World)(K:Nat→Prop)(hb:∀b,K b→b<w.heap.size)(hsl:SlAt w K 3 (.slice A toks.length cp) toks.length (toks.flatMap tokI))(ht:∀t∈toks,(0≤t.1∧t.1≤255)∧t.2.1.size≤1000)(hl:toks.length≤65536):
  Calls Tryz.prog 60 #[.slice A toks.length cp] w fun e w'=>∃v1 v2,e= .returned (.tuple #[v1,v2])∧
   Two w.heap.size w w' 9 1 v1 (keysL toks []).length (kStr (keysL toks [])) 3 1 v2 (keysL toks []).length (kInt (keysL toks [])):=by
 obtain⟨res,hres⟩:∃r,r=keysL toks []:=⟨_,rfl⟩;rw[←hres];have Hb:=hid hb;have Hsl:=hid hsl;have Ht:=hid ht;have Hres:=hid hres;clear hb hsl ht hres;refine calls_hide fun R' hR'=>?_
 go_enter Tryz.func60,Tryz.ntmps60
 go_upto_region 3 with fail
 have hT0:Two w.heap.size w ((w.alloc (.cells #[] 9)).alloc (.cells #[] 3)) 9 1 (.slice (some ⟨w.heap.size,0,none⟩) 0 0) 0 [] 3 1 (.slice (some ⟨w.heap.size+1,0,none⟩) 0 0) 0 []:=by
  have h1:=own_lit w w.heap.size 9 9 1 0 [] rfl rfl (by decide) (Nat.le_refl _)
  have h2:=own_lit (w.alloc (.cells #[] 9)) w.heap.size 3 3 1 0 [] rfl rfl (by decide) (by simp)
  rw[World.size_alloc]at h2;refine⟨ownB_keepS h1 ((Keeps.refl _ _).alloc (fun b hb=>hb) _),h2,fun y h1 h2=>?_,?_,by simp;omega⟩
  ·have h1:some w.heap.size=some y:=h1;have h2:some (w.heap.size+1)=some y:=h2;injection h1 with h1
   injection h2 with h2
   omega
  ·exact kA
 generalize hBB:w.heap.size=B at*;generalize (w.alloc (.cells #[] 9)).alloc (.cells #[] 3)=wa at*;have HT0:=hid hT0;have HBB:=hid hBB;clear hT0 hBB
 go_wp2_with fail
 go_loopw[4,5,14] (fun v1 v2 iv wx=>∃(i:Nat) (acc:List KcI) (A1:Option Addr) (c1:Nat) (A2:Option Addr) (c2:Nat),v1= .slice A1 acc.length c1∧v2= .slice A2 acc.length c2∧iv=I (i:Int)∧i≤toks.length∧acc.length≤i∧Hid (∀p∈acc,0≤p.2∧p.2≤(i:Int))∧Hid (keysL (toks.drop i) acc=res)∧Hid (KUniq acc)∧
  Hid (Two B w wx 9 1 (.slice A1 acc.length c1) acc.length (kStr acc) 3 1 (.slice A2 acc.length c2) acc.length (kInt acc))) (fun _ _ iv _=>toks.length-(intOf iv).toNat)
 case atStart=>exact⟨0,[],some ⟨B,0,none⟩,0,some ⟨B+1,0,none⟩,0,rfl,rfl,rfl,Nat.zero_le _,Nat.zero_le _,hid (fun p h=>by cases h),hid Hres.out.symm,hid (fun i j p q h=>by simp at h),HT0⟩
 case round=>
  obtain⟨i,acc,A1,c1,A2,c2,rfl,rfl,rfl,hi,hal,HC,HX,HU,HT⟩:=hrel
  by_cases hlt:i<toks.length
  ·have hltI:(i:Int)<(toks.length:Int):=by omega
   obtain⟨x,hx⟩:∃x,toks[i]? =some x:=⟨_,List.getElem?_eq_getElem hlt⟩;obtain⟨⟨tf0,tf1⟩,tf2⟩:=Ht.out x (List.mem_of_getElem? hx);have hex:=HX.out;rw[show toks.drop i=x::toks.drop (i+1) by
    obtain⟨h9,h8⟩:=List.getElem?_eq_some_iff.1 hx;rw[List.drop_eq_getElem_cons h9,h8]]at hex
   obtain⟨b0,o0,rfl,hkb,g1⟩:=SlAt.rec (f:=tokI) (fun _ _=>rfl) Hsl.out i _ hx;obtain⟨xf,xt,xp⟩:=x;have hh0:b0<B:=Hb.out _ hkb;have hblk:=HT.out.keeps.block b0 hh0;have a0:=(World.cell?_of_block (a:=⟨b0,o0+i*3+0,none⟩) hblk).trans (g1 0 _ rfl);have a1:=(World.cell?_of_block (a:=⟨b0,o0+i*3+1,none⟩) hblk).trans (g1 1 _ rfl);simp only[Nat.add_zero]at a0
   dsimp only at tf0 tf1 tf2;have hex:(match acc[kcIx (keyB xf xt) acc]? with
    |some p=>keysL (toks.drop (i+1)) (acc.set (kcIx (keyB xf xt) acc) (p.1,p.2+1))
    |none=>keysL (toks.drop (i+1)) (acc++[(keyB xf xt,1)]))=res:=hex
   have hkey:=fun W=>ref7_key xf xt ⟨tf0,tf1⟩ (by omega) W
   have hbl:b0<wr.heap.size:=Nat.lt_of_lt_of_le hh0 HT.out.le;generalize keyB xf xt=key at*;clear g1 hx hblk HX;have Hex:=hid hex;have Hkey:=hid hkey;clear hex hkey
   go_upto_region 6 with fail
   have q0:=fun q:KC (· <wr.heap.size) wr=>q.cell hbl a0;have q1:=fun q:KC (· <wr.heap.size) wr=>q.cell hbl a1;have HK1:=hid (fun q:KC (· <wr.heap.size) wr=>q.calls ((Hkey.out q.w).mono fun e w' h=>⟨h.1,h.2.mono fun b hb=>Nat.lt_of_lt_of_le hb q.k.size⟩));refine wp_region_kc (· <wr.heap.size) (by kernel_rfl) (by kernel_rfl) ?_
   repeat(go_big_quiet_step (exact HK1.out _))
   refine wpQuiet_nil ?_;rintro w5 ⟨⟨_,hk5⟩,rfl⟩;have hT5:=HT.out.calls hk5;clear q0 q1 HK1 HT hk5 a0 a1 hbl Hkey;have HT5:=hid hT5;clear hT5
   go_wp2_with fail
   go_loopw[8,9,30] (fun av _ jv wx=>∃(k:Nat) (m:Int),av=I m∧jv=I (k:Int)∧k≤acc.length∧Hid ((m= -1∧∀(j:Nat) (p:KcI),j<k→acc[j]? =some p→(p.1.toList==key.toList)=false)∨∃(n:Nat) (p:KcI),m=(n:Int)∧n<k∧acc[n]? =some p∧(p.1.toList==key.toList)=true)∧w5=wx) (fun _ _ jv _=>acc.length-(intOf jv).toNat)
   case atStart=>exact⟨0,-1,rfl,rfl,Nat.zero_le _,hid (Or.inl ⟨rfl,fun j p h=>absurd h (Nat.not_lt_zero _)⟩),rfl⟩
   case round=>
    obtain⟨k,m,rfl,rfl,hk,HM,rfl⟩:=hrel
    by_cases hkl:k<acc.length
    ·have hklI:(k:Int)<(acc.length:Int):=by omega
     obtain⟨pq,hpq⟩:∃p,acc[k]? =some p:=⟨_,List.getElem?_eq_getElem hkl⟩;obtain⟨pk,pn⟩:=pq;obtain⟨g,cx,hcf⟩:=ownB_pos HT5.out.o1 (by omega)
     injection hcf with e1 _ e3
     subst e1;have c0:=own_news HT5.out.o1 k _ (by unfold kStr;rw[List.getElem?_map,hpq];rfl)
     rw[Addr.add_lit,Nat.zero_add]at c0
     cases hkk:(pk.toList==key.toList)with
     |true=>
      have hm2:(((k:Int)= -1∧∀(j:Nat) (p:KcI),j<k+1→acc[j]? =some p→(p.1.toList==key.toList)=false)∨∃(n:Nat) (p:KcI),(k:Int)=(n:Int)∧n<k+1∧acc[n]? =some p∧(p.1.toList==key.toList)=true):=Or.inr ⟨k,(pk,pn),rfl,by omega,hpq,hkk⟩
      clear hpq HM;have Hm2:=hid hm2;clear hm2
      go_wp2_with fail
      go_roundw
      case rel=>exact⟨k+1,(k:Int),rfl,by go_num,by omega,Hm2,by first|trivial|rfl⟩
      case measure=>exact msA
     |false=>
      have hm2:((m= -1∧∀(j:Nat) (p:KcI),j<k+1→acc[j]? =some p→(p.1.toList==key.toList)=false)∨∃(n:Nat) (p:KcI),m=(n:Int)∧n<k+1∧acc[n]? =some p∧(p.1.toList==key.toList)=true):=by
       rcases HM.out with⟨h1,h2⟩|⟨n,p,h1,h2,h3,h4⟩
       ·refine Or.inl ⟨h1,fun j p hj hp=>?_⟩
        by_cases e:j=k
        ·subst e;rw[hpq]at hp;injection hp with hp;subst hp;exact hkk
        ·exact h2 j p (by omega) hp
       ·exact Or.inr ⟨n,p,h1,by omega,h3,h4⟩
      clear hpq HM;have Hm2:=hid hm2;clear hm2
      go_wp2_with fail
      go_roundw
      case rel=>exact⟨k+1,m,rfl,by go_num,by omega,Hm2,by first|trivial|rfl⟩
      case measure=>exact msA
    ·obtain rfl:k=acc.length:=by omega
     have hklI:¬(acc.length:Int)<(acc.length:Int):=by omega
     rcases HM.out with⟨rfl,hno⟩|⟨n,p,rfl,hnl,hpn,hpe⟩
     ·have hno:∀(j:Nat) (p:KcI),acc[j]? =some p→(p.1.toList==key.toList)=false:=fun j p hp=>hno j p (List.getElem?_eq_some_iff.1 hp).1 hp;have hex:=Hex.out;rw[kcIx_none hno]at hex;dsimp only at hex;have hU2:=HU.out.app hno;clear HM Hex HU hno;have hm1:((-1:Int)<0):=by decide
      have hle5:=HT5.out.le;have Hex2:=hid hex;have HU2:=hid hU2;clear hex hU2;obtain⟨i0,hi,hz0,hz1,hz2⟩:=info_partsF Tryz.infoStrP
      go_wp2_with (at_builtin;go_must (refine wpList_append_own_at _ rfl _ _ 33 rfl (B) 9 i0 (.string ⟨#[]⟩) 1 16 Tryz.underlying33 hi hz0 hz1 hz2 rfl (by decide) (.slice A1 acc.length c1) acc.length (kStr acc) rfl (ownB_keepS HT5.out.o1 ((Keeps.refl _ _).alloc (fun b hb=>hb) _)) ⟨w5.heap.size,0,none⟩ 1 1 [.string key] rfl (by simp) (own_newsS (own_lit w5 0 _ _ 1 1 [.string key] rfl rfl (by decide) (Nat.zero_le _))) ?_ ?_ ?_ ?_ ?_))
      all_goals(try(first|with_reducible exact one1 _ _|with_reducible exact one2 _ _ _|with_reducible exact one4 _ _ _ _ _|with_reducible exact oneM _ _|exact rfl|exact fun _ _=>rfl|exact⟨rfl,rfl⟩|exact⟨rfl,rfl,rfl⟩|exact⟨rfl,rfl,rfl,rfl⟩|(unfold maxLen;omega)|omega|(simp;omega)|(simp;done)))
      (try clear hi)
      (try clear hz0)
      (try clear hz1)
      (try clear hz2)
      all_goals(try(first|(intro u hu;simp at hu;subst hu;rfl)|(rw[World.size_alloc];omega)))
      intro v' w6 hown hgr _ hf;have hT6:=(HT5.out.alloc _).app hown hgr (by rw[World.size_alloc];exact hf)
      obtain⟨A9,c9,rfl⟩:=ownB_form hown;have hle6:=hT6.le;clear hown hgr hf HT5;have HT6:=hid hT6;clear hT6;obtain⟨i0,hi,hz0,hz1,hz2⟩:=info_partsF Tryz.infoIntP
      go_wp2_with (at_builtin;go_must (refine wpList_append_own_at _ rfl _ _ 135 rfl (B) 3 i0 (I 0) 1 8 Tryz.underlying135 hi hz0 hz1 hz2 rfl (by decide) (.slice A2 acc.length c2) acc.length (kInt acc) rfl (ownB_keepS HT6.out.o2 ((Keeps.refl _ _).alloc (fun b hb=>hb) _)) ⟨w6.heap.size,0,none⟩ 1 1 [I 1] rfl (by simp) (own_newsS (own_lit w6 0 _ _ 1 1 [I 1] rfl rfl (by decide) (Nat.zero_le _))) ?_ ?_ ?_ ?_ ?_))
      all_goals(try(first|with_reducible exact one1 _ _|with_reducible exact one2 _ _ _|with_reducible exact one4 _ _ _ _ _|with_reducible exact oneM _ _|exact rfl|exact fun _ _=>rfl|exact⟨rfl,rfl⟩|exact⟨rfl,rfl,rfl⟩|exact⟨rfl,rfl,rfl,rfl⟩|(unfold maxLen;omega)|omega|(simp;omega)|(simp;done)))
      (try clear hi)
      (try clear hz0)
      (try clear hz1)
      (try clear hz2)
      all_goals(try(first|(intro u hu;simp at hu;subst hu;rfl)|(rw[World.size_alloc];omega)))
      intro v' w7 hown hgr _ hf;have hT7:=((HT6.out.alloc _).swap.app hown hgr (by rw[World.size_alloc];exact hf)).swap
      obtain⟨A8,c8,rfl⟩:=ownB_form hown;clear hown hgr hf HT6;have hll:(acc++[(key,(1:Int))]).length=acc.length+1:=by simp
      have hk1:kStr acc++[Value.string key]=kStr (acc++[(key,1)]):=by unfold kStr;simp
      have hk2:kInt acc++[I 1]=kInt (acc++[(key,1)]):=by unfold kInt;simp
      rw[←hll,hk1,hk2]at hT7;clear hk1 hk2;have hC3:∀p∈acc++[(key,(1:Int))],0≤p.2∧p.2≤((i+1:Nat):Int):=fun p hp=>by
       rcases List.mem_append.1 hp with h|h
       ·have:=HC.out p h;omega
       ·rw[List.mem_singleton.1 h];dsimp only;omega
      generalize acc++[(key,(1:Int))]=acc3 at*;have HT7:=hid hT7;have HC3:=hid hC3;clear hT7 hC3
      go_wp2_with fail
      go_roundw
      case rel=>exact⟨i+1,acc3,A9,c9,A8,c8,by rw[hll],by rw[hll],by go_num,by omega,by omega,HC3,Hex2,HU2,HT7⟩
      case measure=>exact msA
     ·have hex:=Hex.out;rw[kcIx_at HU.out hpn hpe,hpn]at hex;dsimp only at hex;have hU2:=HU.out.set hpn (p.2+1);have hnn:¬(n:Int)<0:=by omega
      have hnI:(n:Int)<(acc.length:Int):=by omega
      obtain⟨g,cx,hcf⟩:=ownB_pos HT5.out.o2 (by omega)
      injection hcf with e1 _ e3
      subst e1;have c0:=own_news HT5.out.o2 n _ (by unfold kInt;rw[List.getElem?_map,hpn];rfl)
      rw[Addr.add_lit,Nat.zero_add]at c0;have hfz:=ownB_free HT5.out.o2 (by omega) n
      obtain⟨pk,pn⟩:=p;dsimp only at hex hU2 c0;clear HM Hex HU hpe;have hfl:∀l:List KcI,kInt l=l.flatMap fun p=>[I p.2]:=fun l=>by unfold kInt;induction l with
       |nil=>rfl
       |cons a l ih=>simp[ih]
      have ho2:=HT5.out.o2;rw[hfl]at ho2;have ho3:=own_recSet (f:=fun p:KcI=>[I p.2]) (fun _=>rfl) ho2 (j:=0) (a':=(pk,pn+1)) (u:=I (pn+1)) hpn (by decide) rfl
      rw[←hfl]at ho3;simp only[Nat.mul_one,Nat.add_zero]at ho3;have hks:kStr (acc.set n (pk,pn+1))=kStr acc:=by
       unfold kStr;rw[List.map_set];exact List.ext_getElem? fun z=>by
        by_cases e:z=n
        ·subst e;rw[List.getElem?_set_self (by rw[List.length_map];exact hnl),List.getElem?_map,hpn];rfl
        ·rw[List.getElem?_set_ne (fun h=>e h.symm)]
      have hgB:=(ownB_lt HT5.out.o2 (b:=g) rfl).1;have hT6:Two B w (w5.setCell ⟨g,n,none⟩ (I (pn+1))) 9 1 (.slice A1 (acc.set n (pk,pn+1)).length c1) (acc.set n (pk,pn+1)).length (kStr (acc.set n (pk,pn+1))) 3 1 (.slice (some ⟨g,0,none⟩) (acc.set n (pk,pn+1)).length c2) (acc.set n (pk,pn+1)).length (kInt (acc.set n (pk,pn+1))):=by
       rw[hks];refine⟨?_,ho3,fun y h1 h2=>?_,HT5.out.keeps.setCell (p:=⟨g,n,none⟩) (fun h=>by have h:g<B:=h;omega) _,by simp[World.setCell];exact HT5.out.le⟩
       ·rw[List.length_set];exact ownsRow_setCell_other HT5.out.o1 (a:=⟨g,n,none⟩) (fun e=>HT5.out.ne g e rfl) _
       ·rw[List.length_set]at h1;exact HT5.out.ne y h1 h2
      have hll:(acc.set n (pk,pn+1)).length=acc.length:=List.length_set ..;have hpb:=HC.out _ (List.mem_of_getElem? hpn);dsimp only at hpb;obtain⟨hpb0,hpb1⟩:=hpb;have hw1:IntKind.i64.wrap (pn+1)=pn+1:=IntWalk.i64_in _ (by omega)
      have hC3:∀p∈acc.set n (pk,pn+1),0≤p.2∧p.2≤((i+1:Nat):Int):=fun p hp=>by
       rcases List.mem_or_eq_of_mem_set hp with h|rfl
       ·have:=HC.out p h;omega
       ·dsimp only;omega
      clear ho2 ho3 hks hfl hpn HT5;generalize acc.set n (pk,pn+1)=acc3 at*;have Hex2:=hid hex;have HU2:=hid hU2;have HT6:=hid hT6;have HC3:=hid hC3;clear hex hU2 hT6 hC3
      go_wp2_with fail
      go_roundw
      case rel=>exact⟨i+1,acc3,A1,c1,some ⟨g,0,none⟩,c2,by rw[hll],by rw[hll],by go_num,by omega,by omega,HC3,Hex2,HU2,HT6⟩
      case measure=>exact msA
  ·obtain rfl:i=toks.length:=by omega
   have hltI:¬(toks.length:Int)<(toks.length:Int):=by omega
   have hex:=HX.out;rw[List.drop_length]at hex;have hex:acc=res:=hex;subst hex
   go_wp2_with fail
   exact hR'.out _ _ ⟨_,_,rfl,HT.out⟩
def lookP (cs:List Int)(t:Tab)(n:Nat)(key:ByteArray):TermM:=
 if(probe t n (homeD n (bsL key)) (bsL key) n 0).1=0 then⟨key,0,0,1⟩else⟨key,(probe t n (homeD n (bsL key)) (bsL key) n 0).1,cs.getD (probe t n (homeD n (bsL key)) (bsL key) n 0).1.toNat 0,1⟩
def termsP (cs:List Int)(t:Tab)(n:Nat):List TokI→List TermM→List TermM
 | [],out=>out
 |x::l,out=>
  match out[keyIx (keyB x.1 x.2.1) out]? with
  |some y=>termsP cs t n l (out.set (keyIx (keyB x.1 x.2.1) out) { y with cnt:=y.cnt+1 })
  |none=>termsP cs t n l (out++[lookP cs t n (keyB x.1 x.2.1)])
theorem lookT_ideal {cs:List Int}{s n:Nat}{t:Tab}{lo hi:Nat}(R:Rep cs s n t lo hi)(hn:0<n)(key:ByteArray):∃cnt,cnt≤n*(2+(key.size+3)/4)+1∧(lookT (s:Int) n key).ideal cs=some (lookP cs t n key,cs,cnt):=by
 obtain⟨cnt,h1,h2⟩:=findK_ideal R hn key;unfold lookT lookP;rw[Tree.ideal_bind,h2]
 by_cases h0:(probe t n (homeD n (bsL key)) (bsL key) n 0).1=0
 ·refine⟨cnt,by omega,?_⟩
  rw[if_pos h0]
  simp[Tree.ideal,h0]
 ·obtain⟨j,a,hj,hta,hx,_⟩:=probe_sound (x:=(probe t n (homeD n (bsL key)) (bsL key) n 0).1) (y:=(probe t n (homeD n (bsL key)) (bsL key) n 0).2) rfl h0 hn;obtain⟨r1,r2,_,_⟩:=R.lies _ _ _ hj hta;have hlen:=R.len;have hbk:=R.book;refine⟨cnt+1,by omega,?_⟩
  rw[if_neg h0];simp only[Option.bind_some];rw[if_neg h0];have hin:0≤(probe t n (homeD n (bsL key)) (bsL key) n 0).1∧(probe t n (homeD n (bsL key)) (bsL key) n 0).1<cs.length:=by rw[hx];omega
  have e:(Tree.load (probe t n (homeD n (bsL key)) (bsL key) n 0).1 fun tl=>Tree.ret (⟨key,(probe t n (homeD n (bsL key)) (bsL key) n 0).1,tl,1⟩:TermM)).ideal cs=some (⟨key,(probe t n (homeD n (bsL key)) (bsL key) n 0).1,cs.getD (probe t n (homeD n (bsL key)) (bsL key) n 0).1.toNat 0,1⟩,cs,1):=by
   show(if _ then _ else _)=_
   rw[if_pos hin];rfl
  rw[e]
  simp[Nat.add_comm]
theorem termsT_ideal {cs:List Int}{s n:Nat}{t:Tab}{lo hi:Nat}(R:Rep cs s n t lo hi)(hn:0<n):∀(l:List TokI) (out:List TermM),(∀x∈l,x.2.1.size≤16)→
  ∃cnt,cnt≤l.length*(n*7+1)∧(termsT (s:Int) n l out).ideal cs=some (termsP cs t n l out,cs,cnt)
 | [],out,_=>⟨0,Nat.zero_le _,rfl⟩
 |x::l,out,hx=>by
  have hs:=hx x List.mem_cons_self;have hl:∀y∈l,y.2.1.size≤16:=fun y hy=>hx y (List.mem_cons_of_mem _ hy);have hkz:=keyB_size x.1 x.2.1;have hmul:(x::l).length*(n*7+1)=l.length*(n*7+1)+(n*7+1):=Nat.succ_mul _ _;rw[hmul];unfold termsT termsP
  split
  ·rename_i y hy
   obtain⟨cnt,h1,h2⟩:=termsT_ideal R hn l (out.set (keyIx (keyB x.1 x.2.1) out) { y with cnt:=y.cnt+1 }) hl
   rw[hy];exact⟨cnt,by omega,h2⟩
  ·rename_i hy
   obtain⟨c1,g1,g2⟩:=lookT_ideal R hn (keyB x.1 x.2.1);obtain⟨cnt,h1,h2⟩:=termsT_ideal R hn l (out++[lookP cs t n (keyB x.1 x.2.1)]) hl;have hm:n*(2+((keyB x.1 x.2.1).size+3)/4)≤n*7:=Nat.mul_le_mul_left _ (by omega)
   refine⟨cnt+c1,by omega,?_⟩
   rw[hy,Tree.ideal_bind,g2];simp only[Option.bind_some,h2]
   simp
def kcOf (t:TermM):KcI:=(t.key,t.cnt)
theorem keyIx_kc (key:ByteArray)(l:List TermM):kcIx key (l.map kcOf)=keyIx key l:=by
 unfold kcIx keyIx;rw[List.findIdx_map];rfl
theorem lookP_key (cs:List Int)(t:Tab)(n:Nat)(key:ByteArray):(lookP cs t n key).key=key∧(lookP cs t n key).cnt=1:=by
 unfold lookP
 split<;>exact⟨rfl,rfl⟩
theorem termsP_keys (cs:List Int)(t:Tab)(n:Nat):∀(l:List TokI) (out:List TermM),(termsP cs t n l out).map kcOf=keysL l (out.map kcOf)
 | [],out=>rfl
 |x::l,out=>by
  unfold termsP keysL;rw[keyIx_kc,List.getElem?_map]
  cases h:out[keyIx (keyB x.1 x.2.1) out]? with
  |some y=>
   dsimp only[Option.map];rw[termsP_keys cs t n l,List.map_set];rfl
  |none=>
   dsimp only[Option.map];rw[termsP_keys cs t n l,List.map_append];have:=lookP_key cs t n (keyB x.1 x.2.1);show keysL l (out.map kcOf++[((lookP cs t n (keyB x.1 x.2.1)).key,(lookP cs t n (keyB x.1 x.2.1)).cnt)])=_;rw[this.1,this.2]
def LookedUp (cs:List Int)(t:Tab)(n:Nat)(y:TermM):Prop:=y.recd=(lookP cs t n y.key).recd∧y.tl=(lookP cs t n y.key).tl
theorem termsP_looked (cs:List Int)(t:Tab)(n:Nat):∀(l:List TokI) (out:List TermM),(∀y∈out,LookedUp cs t n y)→∀y∈termsP cs t n l out,LookedUp cs t n y
 | [],out,h=>h
 |x::l,out,h=>by
  unfold termsP
  cases he:out[keyIx (keyB x.1 x.2.1) out]? with
  |some y=>
   refine termsP_looked cs t n l _ fun z hz=>?_
   rcases List.mem_or_eq_of_mem_set hz with g|rfl
   ·exact h z g
   ·exact h y (List.mem_of_getElem? he)
  |none=>
   refine termsP_looked cs t n l _ fun z hz=>?_
   rcases List.mem_append.1 hz with g|g
   ·exact h z g
   ·rw[List.mem_singleton.1 g];have:=lookP_key cs t n (keyB x.1 x.2.1);exact⟨by rw[this.1],by rw[this.1]⟩
end Go.Proofs.YtogdknnkhkjmcaaGreatDoor
