/- Plain laws of runs: a program that nobody disturbs. -/
import Derived.Test.YtogdknnkhkjmcaaGreatDoorJPlainB
namespace Go.Proofs.YtogdknnkhkjmcaaGreatDoor
open Go.RowKit
set_option linter.all false
namespace Tree
def ideal {α:Type}:Tree α→List Int→Option (α×List Int×Nat)
 |ret x,cs=>some (x,cs,0)
 |load a k,cs=>if 0≤a∧a<cs.length then((k (cs.getD a.toNat 0)).ideal cs).map fun y=>(y.1,y.2.1,y.2.2+1)else none
 |store a v k,cs=>if 0≤a∧a<cs.length then(k.ideal (cs.set a.toNat v)).map fun y=>(y.1,y.2.1,y.2.2+1)else none
 |off k,cs=>(k false).ideal cs
theorem ideal_norm {α:Type}(t:Tree α)(cs:List Int):t.norm.ideal cs=t.ideal cs:=by
 exact c101
theorem ideal_ret {α:Type}{t:Tree α}{cs cs':List Int}{x:α}{n:Nat}(h:t.ideal cs=some (x,cs',n))(hr:t.norm.isRet=true):t.norm= .ret x∧cs'=cs∧n=0:=by
 rw[←ideal_norm]at h
 cases ht:t.norm with
 |ret y=>rw[ht]at h;injection h with h;injection h with h1 h2;injection h2 with h2 h3;subst h1;exact⟨rfl,h2.symm,h3.symm⟩
 |load a k=>rw[ht]at hr;cases hr
 |store a v k=>rw[ht]at hr;cases hr
 |off k=>rw[ht]at hr;cases hr
theorem ideal_bind {α β:Type}(t:Tree α)(f:α→Tree β):∀cs,(t.bind f).ideal cs=(t.ideal cs).bind fun y=>((f y.1).ideal y.2.1).map fun z=>(z.1,z.2.1,z.2.2+y.2.2):=by
 induction t with
 |ret x=>
  intro cs;show(f x).ideal cs=((f x).ideal cs).map _
  cases(f x).ideal cs<;>rfl
 |load a k ih=>
  intro cs;show(if 0≤a∧a<cs.length then _ else _)=Option.bind (if 0≤a∧a<cs.length then _ else _) _
  split
  ·show(((k _).bind f).ideal cs).map _=_;rw[ih]
   cases(k (cs.getD a.toNat 0)).ideal cs with
   |none=>rfl
   |some y=>
    show(((f y.1).ideal y.2.1).map _).map _=((f y.1).ideal y.2.1).map _
    cases(f y.1).ideal y.2.1<;>simp<;>omega
  ·rfl
 |store a v k ih=>
  intro cs;show(if 0≤a∧a<cs.length then _ else _)=Option.bind (if 0≤a∧a<cs.length then _ else _) _
  split
  ·show((k.bind f).ideal _).map _=_;rw[ih]
   cases k.ideal (cs.set a.toNat v)with
   |none=>rfl
   |some y=>
    show(((f y.1).ideal y.2.1).map _).map _=((f y.1).ideal y.2.1).map _
    cases(f y.1).ideal y.2.1<;>simp<;>omega
  ·rfl
 |off k ih=>intro cs;exact ih false cs
end Tree
theorem inb_iff (μ:MemS)(a:Int):μ.inb a=true↔0≤a∧a<μ.cells.length:=by simp[MemS.inb]
def Small (x:Int):Prop:= -1099511627776≤x∧x≤1099511627776
def layT (b d id ln born:Int):Tree Unit:= .store (b+4*d+1) id (.store (b+4*d+2) ln (.store (b+4*d+0) born (.ret ())))
def killT (b d v:Int):Tree Unit:= .store (b+4*d+3) v (.ret ())
def findT (b id:Int):Nat→Nat→Tree Int
 |0,_=> .ret (-1)
 |n+1,d=> .load (b+4*d+1) fun x=> .off fun o=>if o=true then .ret (-1)else if x=id then .ret d else findT b id n (d+1)
set_option maxHeartbeats 400000 in
theorem table_lay {w:World}{K:Nat→Prop}{r m c:Nat}{s:St}(h:RM w K r m c s)(b d id ln born:Int)(hb:Small b)(hd:Small d)(hi:U32 id)(hl:U32 ln)(hn:U32 born):
  Calls Tryz.prog 56 #[.pointer (some ⟨r,0,none⟩),I b,I d,J id,J ln,J born] w fun e w'=>
   e= .returned (.tuple #[])∧RM w' K r m c ((layT b d id ln born).exec s).2∧Keeps K w w':=by
 obtain⟨b0,b1⟩:=hb;obtain⟨d0,d1⟩:=hd;have H:=hid h;clear h;refine calls_hide fun R' hR'=>?_
 go_enter Tryz.func56,Tryz.ntmps56
 go_wp2_with fail
 refine(step_store H.out _ id hi).mono ?_;rintro e w1 ⟨rfl,hr1,hk1⟩;have H1:=hid hr1;have HK1:=hid hk1;clear hr1 hk1
 go_wp2_with fail
 refine(step_store H1.out _ ln hl).mono ?_;rintro e w2 ⟨rfl,hr2,hk2⟩;have H2:=hid hr2;have HK2:=hid (HK1.out.trans hk2);clear hr2 hk2
 go_wp2_with fail
 refine(step_store H2.out _ born hn).mono ?_;rintro e w3 ⟨rfl,hr3,hk3⟩;have H3:=hid hr3;have HK3:=hid (HK2.out.trans hk3);clear hr3 hk3
 go_wp2_with fail
 go_end0
 refine hR'.out _ _ ⟨rfl,?_,HK3.out⟩
 first|exact H3.out|(show RM w3 K r m c (((s.store (b+4*d+1) id).store (b+4*d+2) ln).store (b+4*d+0) born);rw[Int.add_zero];exact H3.out)
set_option maxHeartbeats 400000 in
theorem table_kill {w:World}{K:Nat→Prop}{r m c:Nat}{s:St}(h:RM w K r m c s)(b d v:Int)(hb:Small b)(hd:Small d)(hv:U32 v):
  Calls Tryz.prog 48 #[.pointer (some ⟨r,0,none⟩),I b,I d,J v] w fun e w'=>
   e= .returned (.tuple #[])∧RM w' K r m c ((killT b d v).exec s).2∧Keeps K w w':=by
 obtain⟨b0,b1⟩:=hb;obtain⟨d0,d1⟩:=hd;have H:=hid h;clear h;refine calls_hide fun R' hR'=>?_
 go_enter Tryz.func48,Tryz.ntmps48
 go_wp2_with fail
 refine(step_store H.out _ v hv).mono ?_;rintro e w1 ⟨rfl,hr1,hk1⟩;have H1:=hid hr1;have HK1:=hid hk1;clear hr1 hk1
 go_wp2_with fail
 go_end0
 exact hR'.out _ _ ⟨rfl,H1.out,HK1.out⟩
theorem findT_step (b id:Int)(n d:Nat)(s:St):(findT b id (n+1) d).exec s=
  (if(s.load (b+4*d+1)).2.isOff=true then Tree.ret (-1)else if(s.load (b+4*d+1)).1=id then .ret (d:Int)else findT b id n (d+1)).exec (s.load (b+4*d+1)).2:=rfl
set_option maxHeartbeats 1000000 in
theorem table_find {w:World}{K:Nat→Prop}{r m c:Nat}{s:St}(h:RM w K r m c s)(b id:Int)(n:Nat)(hb:Small b)(hn:n≤1099511627776)(hi:U32 id):
  Calls Tryz.prog 69 #[.pointer (some ⟨r,0,none⟩),I b,I n,J id] w fun e w'=>
   e= .returned (I ((findT b id n 0).exec s).1)∧RM w' K r m c ((findT b id n 0).exec s).2∧Keeps K w w':=by
 obtain⟨b0,b1⟩:=hb;obtain⟨i0,i1⟩:=hi;have H:=hid h;clear h;generalize hres:(findT b id n 0).exec s=res;have HRes:=hid hres;clear hres;refine calls_hide fun R' hR'=>?_
 go_enter Tryz.func69,Tryz.ntmps69
 go_wp2_with fail
 go_loopw[12] (fun i wr=>∃(k:Nat) (s':St),i=I k∧k≤n∧RM wr K r m c s'∧Keeps K w wr∧(findT b id (n-k) k).exec s'=res) (fun i _=>n-(intOf i).toNat)
 case atStart=>exact⟨0,s,rfl,Nat.zero_le _,H.out,Keeps.refl _ _,HRes.out⟩
 case round=>
  obtain⟨k,s',rfl,hk,hR,hK,hex⟩:=hrel;have HR:=hid hR;have HK:=hid hK;clear hR hK
  by_cases hlt:k<n
  ·have e:n-k=(n-(k+1))+1:=by omega
   rw[e,findT_step]at hex;have HEX:=hid hex;clear hex e
   go_wp2_with fail
   refine(step_load HR.out _).mono ?_;rintro e w1 ⟨rfl,hr1,hk1⟩;have HU:=hid (HR.out.load_u32 (b+4*(k:Int)+1));have HE2:=HEX.out;generalize s'.load (b+4*(k:Int)+1)=ls at*;obtain⟨x,s1⟩:=ls;simp only at hr1 HU HE2;have HR1:=hid hr1;have HK1:=hid (HK.out.trans hk1);have HX:=hid HE2;clear hr1 hk1 HE2
   go_wp2_with fail
   refine(step_off HR1.out).mono ?_;rintro e w2 ⟨rfl,rfl⟩;have hx:=HX.out
   cases ho:s1.isOff
   ·rw[ho,if_neg (by decide)]at hx
    by_cases hxi:x=id
    ·rw[if_pos hxi]at hx;have HY:=hid hx;clear hx;subst hxi
     go_wp2_with fail
     exact hR'.out _ _ ⟨by rw[←HY.out];rfl,by rw[←HY.out];exact HR1.out,HK1.out⟩
    ·rw[if_neg hxi]at hx;have HY:=hid hx;have hb:(x==id)=false:=by simpa using hxi
     clear hx hxi
     go_wp2_with fail
     go_roundw
     case rel=>exact⟨k+1,s1,by go_num,by omega,HR1.out,HK1.out,HY.out⟩
     case measure=>simp[intOf];omega
   ·rw[ho,if_pos rfl]at hx;have HY:=hid hx;clear hx
    go_wp2_with fail
    exact hR'.out _ _ ⟨by rw[←HY.out];rfl,by rw[←HY.out];exact HR1.out,HK1.out⟩
  ·have hkn:n-k=0:=by omega
   rw[hkn]at hex;have HY:=hid hex;clear hex hkn
   go_wp2_with fail
   exact hR'.out _ _ ⟨by rw[←HY.out];rfl,by rw[←HY.out];exact HR.out,HK.out⟩
end Go.Proofs.YtogdknnkhkjmcaaGreatDoor
