/- A run beside a row of the caller's own that grows by appends. -/
import Derived.Test.YtogdknnkhkjmcaaGreatDoorJNeed
namespace Go.Proofs.YtogdknnkhkjmcaaGreatDoor
open Go.RowKit
set_option linter.all false
structure Pools where
 b:Nat→Nat
 n:Nat→Nat
def sz (k:Nat):Nat:=match k with|0=>4|1=>16|2=>64|_=>256
structure Pools.ok (P:Pools):Prop where
 b0:3≤P.b 0
 b1:P.b 1=P.b 0+4*P.n 0
 b2:P.b 2=P.b 1+16*P.n 1
 b3:P.b 3=P.b 2+64*P.n 2
 top:P.b 3+256*P.n 3≤65536
structure PlanM.lays (p:PlanM)(P:Pools):Prop where
 b:∀k,k≤3→p.bK k=(P.b k:Int)
 s:∀k,k≤3→p.sK k=((sz k*P.n k:Nat):Int)
def Pools.In (P:Pools)(k i x a:Nat):Prop:=k≤3∧i<P.n k∧a<sz k∧x=P.b k+sz k*i+a
theorem k_cases {k:Nat}(h:k≤3):k=0∨k=1∨k=2∨k=3:=by omega
theorem cls_of {p:PlanM}{P:Pools}(hP:P.ok)(hl:p.lays P){k i x a:Nat}(h:P.In k i x a):p.cls (x:Int)=((k:Int),(a:Int)):=by
 obtain⟨hk,hi,ha,hx⟩:=h;obtain⟨b0,b1,b2,b3,top⟩:=hP;have hb:=hl.b;have hs:=hl.s;have e0:=hb 0 (by omega);have e1:=hb 1 (by omega);have e2:=hb 2 (by omega);have e3:=hb 3 (by omega)
 have s0:=hs 0 (by omega);have s1:=hs 1 (by omega);have s2:=hs 2 (by omega);have s3:=hs 3 (by omega)
 simp only[sz]at s0 s1 s2 s3;have hno:∀j,j<k→¬p.has j (x:Int):=by
  intro j hj hh;unfold PlanM.has at hh;have hj3:j=0∨j=1∨j=2:=by omega
  rcases k_cases hk with rfl|rfl|rfl|rfl<;>simp only[sz]at ha hx<;>rcases hj3 with rfl|rfl|rfl<;>first|omega|(simp only[e0,s0]at hh;omega)|(simp only[e1,s1]at hh;omega)|(simp only[e2,s2]at hh;omega)
 have hyes:p.has k (x:Int):=by
  unfold PlanM.has
  rcases k_cases hk with rfl|rfl|rfl|rfl<;>simp only[sz]at ha hx<;>first|(rw[e0,s0];omega)|(rw[e1,s1];omega)|(rw[e2,s2];omega)|(rw[e3,s3];omega)
 rw[PlanM.cls_at p x k hk hno hyes];refine Prod.ext rfl ?_;show((x:Int)-p.bK k)%szK k=(a:Int)
 rcases k_cases hk with rfl|rfl|rfl|rfl<;>simp only[sz]at ha hx<;>simp only[szK]<;>first|(rw[e0];omega)|(rw[e1];omega)|(rw[e2];omega)|(rw[e3];omega)
theorem in_lt {P:Pools}(hP:P.ok){k i x a:Nat}(h:P.In k i x a):3≤x∧x<P.b 3+256*P.n 3:=by
 obtain⟨hk,hi,ha,hx⟩:=h;obtain⟨b0,b1,b2,b3,top⟩:=hP
 rcases k_cases hk with rfl|rfl|rfl|rfl<;>simp only[sz]at ha hx<;>omega
def updQ (q:Nat→Nat)(c:Nat):Nat→Nat:=fun k=>if k=c then q k+1 else q k
def putMem (μ:List Int)(t a:Nat)(v:Int):List Int:=if t=0 then μ.set (a+1) v else(μ.set a (t:Int)).set (a+1) v
theorem sz_ge {k:Nat}(h:k≤3):4≤sz k∧sz k≤256:=by rcases k_cases h with rfl|rfl|rfl|rfl<;>decide
theorem set_get_ne {l:List Int}{i j:Nat}{v:Int}(h:j≠i):(l.set i v)[j]? =l[j]? :=List.getElem?_set_ne (fun e=>h e.symm)
theorem In.succ {P:Pools}{k i x a:Nat}(h:P.In k i x a)(ha:a+1<sz k):P.In k i (x+1) (a+1):=⟨h.1,h.2.1,ha,by have:=h.2.2.2;omega⟩
theorem next_mid {p:PlanM}{P:Pools}(hP:P.ok)(hl:p.lays P){k i x a:Nat}(h:P.In k i x a)(h1:1≤a)(h2:a+1<sz k):p.next (x:Int)=(-1,true):=by
 have hc:=cls_of hP hl h;have hx:=in_lt hP h;unfold PlanM.next
 rw[if_neg (by omega),hc]
 have hk:=h.1;have e:((k:Int)).toNat=k:=by omega
 have hz:szK k=(sz k:Int):=by rcases k_cases hk with rfl|rfl|rfl|rfl<;>rfl
 simp only;rw[if_neg (by omega),e,hz,if_neg (by omega)]
theorem next_end {p:PlanM}{P:Pools}(hP:P.ok)(hl:p.lays P){k i x a:Nat}(h:P.In k i x a)(h2:a+1=sz k):p.next (x:Int)=(((min (k+1) 3:Nat):Int),true):=by
 have hc:=cls_of hP hl h;have hx:=in_lt hP h;have hk:=h.1;have hs:=sz_ge hk;unfold PlanM.next
 rw[if_neg (by omega),hc]
 have e:((k:Int)).toNat=k:=by omega
 have hz:szK k=(sz k:Int):=by rcases k_cases hk with rfl|rfl|rfl|rfl<;>rfl
 simp only;rw[if_neg (by omega),e,hz,if_pos (by omega)]
 congr 1
 split<;>omega
theorem next_zero (p:PlanM):p.next 0=(0,true):=by unfold PlanM.next;rw[if_pos rfl]
theorem putIn_ideal (μ:List Int)(t:Nat)(v:Int)(h:t+1<μ.length):(putIn t v).ideal μ=some ((),μ.set (t+1) v,1):=by
 unfold putIn;simp only[Tree.ideal];rw[if_pos (by omega)]
 have e:((t:Int)+1).toNat=t+1:=by omega
 rw[e];rfl
theorem putNew_ideal (μ:List Int)(t a:Nat)(v:Int)(h:a+1<μ.length):∃n,n≤2∧(putNew t a v).ideal μ=some ((),putMem μ t a v,n):=by
 have e:((a:Int)+1).toNat=a+1:=by omega
 have e2:((a:Int)).toNat=a:=by omega
 unfold putNew putMem
 by_cases h0:t=0
 ·subst h0;refine⟨1,by omega,?_⟩
  rw[if_pos (show((0:Nat):Int)=0 from rfl),if_pos rfl]
  simp only[Tree.ideal];rw[if_pos (by omega),e];rfl
 ·refine⟨2,by omega,?_⟩
  rw[if_neg (by omega),if_neg h0]
  simp only[Tree.ideal];rw[if_pos (by omega),e2,if_pos (by rw[List.length_set];omega),e];rfl
def UsedIs (u:V6)(q:Nat→Nat):Prop:=∀k,k≤3→u.uK k=((sz k*q k:Nat):Int)
theorem szK_eq {k:Nat}(h:k≤3):szK k=(sz k:Int):=by rcases k_cases h with rfl|rfl|rfl|rfl<;>rfl
theorem UsedIs.up {u:V6}{q:Nat→Nat}(h:UsedIs u q){c:Nat}(hc:c≤3):UsedIs (u.up c (szK c)) (updQ q c):=by
 have h0:=h 0 (by omega);have h1:=h 1 (by omega);have h2:=h 2 (by omega);have h3:=h 3 (by omega)
 intro k hk;unfold updQ
 rcases k_cases hc with rfl|rfl|rfl|rfl<;>rcases k_cases hk with rfl|rfl|rfl|rfl<;>simp only[V6.uK,V6.up,szK,sz]at h0 h1 h2 h3 ⊢ <;>first|omega|(simp;done)|(simp;omega)|(split<;>omega)
theorem PlanM.lays.wf {p:PlanM}{P:Pools}(hP:P.ok)(hl:p.lays P):p.Wf:=by
 obtain⟨b0,b1,b2,b3,top⟩:=hP;have e0:=hl.b 0 (by omega);have e1:=hl.b 1 (by omega);have e2:=hl.b 2 (by omega);have e3:=hl.b 3 (by omega)
 have s0:=hl.s 0 (by omega);have s1:=hl.s 1 (by omega);have s2:=hl.s 2 (by omega);have s3:=hl.s 3 (by omega)
 simp only[sz]at s0 s1 s2 s3
 constructor
 ·intro k
  match k with
  |0=>rw[e0];omega
  |1=>rw[e1];omega
  |2=>rw[e2];omega
  |3=>rw[e3];omega
  |k+4=>show 0≤p.bK 3∧p.bK 3≤65536;rw[e3];omega
 ·intro k
  match k with
  |0=>rw[s0];omega
  |1=>rw[s1];omega
  |2=>rw[s2];omega
  |3=>rw[s3];omega
  |k+4=>show 0≤p.sK 3∧p.sK 3≤65536;rw[s3];omega
def refL:Nat→Nat→Nat→V6→V6
 |0,_,_,out=>out
 |n+1,left,k,out=>if left=0 then refL n (sz k-2) (min (k+1) 3) (out.up k (szK k))else refL n (left-1) k out
theorem refL_rest:∀(m n left k:Nat) (out:V6),m≤left→refL (m+n) left k out=refL n (left-m) k out:=by
 intro m
 induction m with
 |zero=>intro n left k out _;rw[Nat.zero_add,Nat.sub_zero]
 |succ m ih=>
  intro n left k out h;rw[show m+1+n=(m+n)+1 from by omega,refL,if_neg (by omega),ih _ _ _ _ (by omega),show left-1-m=left-(m+1)from by omega]
theorem needL_ref:∀(f n room k:Nat) (out:V6),k≤3→n+(if room=0 then 1 else 0)<f→needL f (n:Int) (room:Int) k out=refL n room k out:=by
 intro f
 induction f with
 |zero=>intro n room k out _ h;omega
 |succ f ih=>
  intro n room k out hk h;have hs:=sz_ge hk;have hz:=szK_eq hk;rw[needL]
  by_cases hgt:n>room
  ·rw[if_pos (by omega),show(n:Int)-(room:Int)=((n-room:Nat):Int)from by omega,hz,show(sz k:Int)-1=((sz k-1:Nat):Int)from by omega,ih _ _ _ _ (by omega) (by rw[if_neg (by omega)];split at h<;>omega)]
   obtain⟨m,hm⟩:∃m,n-room=m+1:=⟨n-room-1,by omega⟩
   have e1:refL n room k out=refL (m+1) 0 k out:=by
    have:=refL_rest room (n-room) room k out (Nat.le_refl _);rw[show room+(n-room)=n from by omega,Nat.sub_self,hm]at this
    exact this
   rw[e1,hm,refL,if_neg (by omega),show refL (m+1) 0 k out=refL m (sz k-2) (min (k+1) 3) (out.up k (szK k))from by rw[refL,if_pos rfl],hz,show sz k-1-1=sz k-2 from by omega]
  ·rw[if_neg (by omega)]
   have:=refL_rest n 0 room k out (by omega)
   rw[Nat.add_zero]at this;rw[this];rfl
theorem needL_neg (f:Nat)(n room:Int)(k:Nat)(out:V6)(h:n≤0)(hr:0≤room):needL f n room k out=out:=by
 cases f with
 |zero=>rfl
 |succ f=>rw[needL,if_neg (by omega)]
def leftOf:Option (Nat×Nat×Nat)→Nat
 |none=>0
 |some (k,_,a)=>sz k-1-a
def classOf:Option (Nat×Nat×Nat)→Nat
 |none=>0
 |some (k,_,_)=>min (k+1) 3
def V6.add (u v:V6):V6:=⟨u.a0+v.a0,u.a1+v.a1,u.a2+v.a2,u.a3+v.a3,u.a4+v.a4,u.a5+v.a5⟩
theorem V6.add_up (u v:V6)(k:Nat)(z:Int):u.add (v.up k z)=(u.add v).up k z:=by
 unfold V6.add V6.up
 split<;>simp<;>omega
theorem refL_add:∀(n left k:Nat) (u v:V6),refL n left k (u.add v)=u.add (refL n left k v):=by
 intro n
 induction n with
 |zero=>intro _ _ _ _;rfl
 |succ n ih=>
  intro left k u v;rw[refL,refL]
  split
  ·rw[←V6.add_up,ih]
  ·rw[ih]
theorem V6.add_zero (u:V6):u.add zerosN=u:=by unfold V6.add zerosN;simp
theorem up_ge (u:V6)(c:Nat)(z:Int)(hz:0≤z)(k:Nat):u.uK k≤(u.up c z).uK k:=by
 unfold V6.up V6.uK
 split<;>split<;>simp<;>omega
theorem refL_ge:∀(n left k:Nat) (u:V6) (i:Nat),u.uK i≤(refL n left k u).uK i:=by
 intro n
 induction n with
 |zero=>intro _ _ _ _;exact Int.le_refl _
 |succ n ih=>
  intro left k u i;rw[refL]
  split
  ·exact Int.le_trans (up_ge u k _ (by have:=szK_bd k;omega) i) (ih _ _ _ _)
  ·exact ih _ _ _ _
theorem cls_at0 {p:PlanM}{X Y z a:Int}{n i:Nat}(hX:p.bK 0=X)(hY:p.sK 0=Y)(hn:Y=4*(n:Int))(hz:z=X+4*(i:Int))(h1:z≤a)(h2:a<z+4)(h3:z<X+Y)(hno:∀j,j<0→¬p.has j a):p.cls a=(((0:Nat):Int),a-z):=by
 rw[PlanM.cls_at p a 0 (by omega) hno (by unfold PlanM.has;rw[hX,hY];omega)]
 refine Prod.ext rfl ?_;show(a-p.bK 0)%4=a-z;rw[hX];omega
theorem cls_no0 {p:PlanM}{X Y z a:Int}{n i:Nat}(hX:p.bK 0=X)(hY:p.sK 0=Y)(hn:Y=4*(n:Int))(hz:z=X+4*(i:Int))(h3:¬z<X+Y)(hs:∀j:Nat,j<i→¬(X+4*(j:Int)≤a∧a<X+4*(j:Int)+4)):¬p.has 0 a:=by
 intro h;unfold PlanM.has at h;rw[hX,hY]at h;exact hs ((a-X)/4).toNat (by omega) (by omega)
theorem cls_at1 {p:PlanM}{X Y z a:Int}{n i:Nat}(hX:p.bK 1=X)(hY:p.sK 1=Y)(hn:Y=16*(n:Int))(hz:z=X+16*(i:Int))(h1:z≤a)(h2:a<z+16)(h3:z<X+Y)(hno:∀j,j<1→¬p.has j a):p.cls a=(((1:Nat):Int),a-z):=by
 rw[PlanM.cls_at p a 1 (by omega) hno (by unfold PlanM.has;rw[hX,hY];omega)]
 refine Prod.ext rfl ?_;show(a-p.bK 1)%16=a-z;rw[hX];omega
theorem cls_no1 {p:PlanM}{X Y z a:Int}{n i:Nat}(hX:p.bK 1=X)(hY:p.sK 1=Y)(hn:Y=16*(n:Int))(hz:z=X+16*(i:Int))(h3:¬z<X+Y)(hs:∀j:Nat,j<i→¬(X+16*(j:Int)≤a∧a<X+16*(j:Int)+16)):¬p.has 1 a:=by
 intro h;unfold PlanM.has at h;rw[hX,hY]at h;exact hs ((a-X)/16).toNat (by omega) (by omega)
theorem cls_at2 {p:PlanM}{X Y z a:Int}{n i:Nat}(hX:p.bK 2=X)(hY:p.sK 2=Y)(hn:Y=64*(n:Int))(hz:z=X+64*(i:Int))(h1:z≤a)(h2:a<z+64)(h3:z<X+Y)(hno:∀j,j<2→¬p.has j a):p.cls a=(((2:Nat):Int),a-z):=by
 rw[PlanM.cls_at p a 2 (by omega) hno (by unfold PlanM.has;rw[hX,hY];omega)]
 refine Prod.ext rfl ?_;show(a-p.bK 2)%64=a-z;rw[hX];omega
theorem cls_no2 {p:PlanM}{X Y z a:Int}{n i:Nat}(hX:p.bK 2=X)(hY:p.sK 2=Y)(hn:Y=64*(n:Int))(hz:z=X+64*(i:Int))(h3:¬z<X+Y)(hs:∀j:Nat,j<i→¬(X+64*(j:Int)≤a∧a<X+64*(j:Int)+64)):¬p.has 2 a:=by
 intro h;unfold PlanM.has at h;rw[hX,hY]at h;exact hs ((a-X)/64).toNat (by omega) (by omega)
theorem cls_at3 {p:PlanM}{X Y z a:Int}{n i:Nat}(hX:p.bK 3=X)(hY:p.sK 3=Y)(hn:Y=256*(n:Int))(hz:z=X+256*(i:Int))(h1:z≤a)(h2:a<z+256)(h3:z<X+Y)(hno:∀j,j<3→¬p.has j a):p.cls a=(((3:Nat):Int),a-z):=by
 rw[PlanM.cls_at p a 3 (by omega) hno (by unfold PlanM.has;rw[hX,hY];omega)]
 refine Prod.ext rfl ?_;show(a-p.bK 3)%256=a-z;rw[hX];omega
theorem cls_no3 {p:PlanM}{X Y z a:Int}{n i:Nat}(hX:p.bK 3=X)(hY:p.sK 3=Y)(hn:Y=256*(n:Int))(hz:z=X+256*(i:Int))(h3:¬z<X+Y)(hs:∀j:Nat,j<i→¬(X+256*(j:Int)≤a∧a<X+256*(j:Int)+256)):¬p.has 3 a:=by
 intro h;unfold PlanM.has at h;rw[hX,hY]at h;exact hs ((a-X)/256).toNat (by omega) (by omega)
set_option maxRecDepth 100000 in
set_option maxHeartbeats 8000000 in
theorem class_ref (p:PlanM)(P:Pools)(hP:P.ok)(hl:p.lays P)(a:Int)(w:World)(ha: -9223372036854775808≤a∧a≤9223372036854775807):
  Calls Tryz.prog 92 #[p.val,I a] w fun e w'=>e= .returned (.tuple #[I (p.cls a).1,I (p.cls a).2])∧Keeps (· <w.heap.size) w w':=by
 obtain⟨ha0,ha1⟩:=ha;have HWF:=hid (hl.wf hP);have HS:=hid hl.s;have HCN:=hid (p.cls_none a);clear hl hP;refine calls_hide fun R' hR'=>?_;unfold PlanM.val
 go_enter Tryz.func92,Tryz.ntmps92
 go_wp2_with fail
 refine wp_gen (fun W=>Blk W w.heap.size p.flat∧Keeps (· <w.heap.size) w W) ⟨Blk.new w p.flat _,(Keeps.refl _ _).alloc (fun b hb=>hb) _⟩ ?_;rintro w0 ⟨hb0,hk0⟩;generalize hB:w.heap.size=B at*;have Hb0:=hid hb0;have Hk0:=hid hk0;have HB:=hid hB;clear hb0 hk0 hB
 go_loopw[6] (fun vi wr=>∃k:Nat,vi=I (k:Int)∧k≤4∧Hid (Blk wr B p.flat∧Keeps (· <B) w wr∧∀j,j<k→¬p.has j a)) (fun i _=>4-(intOf i).toNat)
 case atStart=>exact⟨0,rfl,by omega,hid ⟨Hb0.out,Hk0.out,fun j h=>by omega⟩⟩
 case round=>
  clear Hb0 Hk0;obtain⟨k,rfl,hk,HH⟩:=hrel;obtain⟨hblk,hkp,hno⟩:=HH.out;clear HH;have Hkp:=hid hkp;have Hno:=hid hno;clear hkp hno
  by_cases hk4:k<4
  ·have hcases:k=0∨k=1∨k=2∨k=3:=by omega
   clear hk hk4
   rcases hcases with rfl|rfl|rfl|rfl
   ·have c1:=hblk.cell 0;have zz128:=@c646;exact c644
   ·have c1:=hblk.cell 1;have zz129:=@c649;exact c647
   ·have c1:=hblk.cell 2;have zz130:=@c652;exact c650
   ·have c1:=hblk.cell 3;have zz131:=@c655;exact c653
  ·obtain rfl:k=4:=by omega
   clear hblk
   go_wp2_with fail
   refine hR'.out _ _ ⟨?_,?_⟩
   ·rw[HCN.out (fun j hj=>Hno.out j hj)];rfl
   ·exact c11
end Go.Proofs.YtogdknnkhkjmcaaGreatDoor
