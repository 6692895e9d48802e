/- Plain laws for Write: a dictionary with its terms' slabs: a new record, one word more. -/
import Derived.Test.YtogdknnkhkjmcaaGreatDoorJGoodA
import Derived.Test.YtogdknnkhkjmcaaGreatDoorJGoodC
namespace Go.Proofs.YtogdknnkhkjmcaaGreatDoor
open Go.RowKit
set_option linter.all false
def RecTo (p:PlanM)(cs:List Int)(u:V6)(s0 n:Nat)(key:ByteArray)(cs1:List Int)(rc:Nat)(u1:V6):Prop:=
 (∃sl:Int,findL cs s0 n (homeD n (bsL key)) key n 0=((rc:Int),sl,true)∧rc≠0∧rc<cs.length∧cs1=cs∧u1=u)∨
 ∃sl:Nat,findL cs s0 n (homeD n (bsL key)) key n 0=(0,(sl:Int),true)∧0≤u.a4∧u.a4+(2+(((key.size+3)/4:Nat):Int))≤p.size.a4∧p.base.a4+u.a4=(rc:Int)∧rc+2+(key.size+3)/4≤cs.length∧s0+sl<cs.length∧
  cs1=putC cs rc (s0+sl) key.size (packC (bsL key))∧u1={ u with a4:=u.a4+(2+(((key.size+3)/4:Nat):Int)) }
theorem RecTo.len {p:PlanM}{cs cs1:List Int}{u u1:V6}{s0 n rc:Nat}{key:ByteArray}(h:RecTo p cs u s0 n key cs1 rc u1):cs1.length=cs.length∧rc<cs.length:=by
 rcases h with⟨_,_,_,h1,rfl,_⟩|⟨sl,_,_,_,_,h1,_,rfl,_⟩
 ·exact⟨rfl,h1⟩
 ·exact⟨putC_len ..,by omega⟩
theorem set_u32 {cs:List Int}(h:∀y∈cs,U32 y){v:Int}(hv:U32 v)(i:Nat):∀y∈cs.set i v,U32 y:=fun y hy=>by
 rcases List.mem_or_eq_of_mem_set hy with g|rfl
 ·exact h y g
 ·exact hv
theorem storesC_u32 (a:Nat):∀(L:List Int) (cs:List Int) (k:Nat),(∀y∈cs,U32 y)→(∀y∈L,U32 y)→∀y∈storesC cs a L k,U32 y
 | [],cs,k,h,_=>h
 |c::L,cs,k,h,hL=>storesC_u32 a L _ (k+1) (set_u32 h (hL c List.mem_cons_self) _) (fun y hy=>hL y (List.mem_cons_of_mem _ hy))
theorem putC_u32 {cs:List Int}(h:∀y∈cs,U32 y){a sl:Nat}{len:Int}{L:List Int}(ha:a≤65536)(hl:U32 len)(hL:∀y∈L,U32 y):∀y∈putC cs a sl len L,U32 y:=
 set_u32 (storesC_u32 a L _ 0 (set_u32 h hl _) hL) (by unfold U32;omega) _
theorem putMem_u32 {cs:List Int}(h:∀y∈cs,U32 y){t a:Nat}{v:Int}(ht:t≤65536)(hv:U32 v):∀y∈putMem cs t a v,U32 y:=by
 unfold putMem
 split
 ·exact set_u32 h hv _
 ·exact set_u32 (set_u32 h (by unfold U32;omega) _) hv _
theorem PutsTo.u32 {p:PlanM}{cs cs2:List Int}{u u2:V6}{t t2:Nat}{wd:Int}(h:PutsTo p cs u t wd cs2 t2 u2)(hu:∀y∈cs,U32 y)(ht:t≤65536)(hw:U32 wd):∀y∈cs2,U32 y:=by
 rcases h with⟨_,_,rfl,_⟩|⟨k,a,_,_,_,_,_,_,rfl,_⟩
 ·exact set_u32 hu hw _
 ·exact putMem_u32 hu ht hw
structure DicAt (p:PlanM)(P:Pools)(s n:Nat)(cs:List Int)(u:V6)(t:Tab)(q:Nat→Nat)(hi:Nat):Prop where
 ok:P.ok
 lays:p.lays P
 n0:0<n
 n1:n≤512
 rep:Rep cs s n t (P.b 3+256*P.n 3) hi
 wf:WF t n (homeD n)
 base:p.base.a4=((P.b 3+256*P.n 3:Nat):Int)
 top:(hi:Int)=p.base.a4+u.a4
 a4:0≤u.a4∧u.a4≤p.size.a4
 book:p.base.a4+p.size.a4≤(s:Int)
 zero:∀i:Nat,hi≤i→(i:Int)<p.base.a4+p.size.a4→cs[i]? =some 0
 apart:∀i k a i' k' a',i<n→i'<n→t i=some (k,a)→t i'=some (k',a')→a=a'∨a+2+(packC k).length≤a'∨a'+2+(packC k').length≤a
 tails:∀i k a,i<n→t i=some (k,a)→∃(tl:Nat) (x:Option (Nat×Nat×Nat)),cs[a]? =some (tl:Int)∧TailIs P q tl x
 used:UsedIs u q
 u32:∀y∈cs,U32 y
 len:cs.length≤65536
theorem TailIs.zero (P:Pools)(q:Nat→Nat):TailIs P q 0 none:=Or.inl ⟨rfl,rfl⟩
theorem tail_lt {P:Pools}(hP:P.ok){q:Nat→Nat}{t:Nat}{x:Option (Nat×Nat×Nat)}(h:TailIs P q t x):t<P.b 3+256*P.n 3:=by
 rcases h with⟨_,rfl⟩|⟨k,i,a,_,h2,_⟩
 ·have:=hP.b0;have:=hP.b1;have:=hP.b2;have:=hP.b3;omega
 ·exact(in_lt hP h2).2
theorem lo_ge {P:Pools}(hP:P.ok):3≤P.b 3+256*P.n 3:=by
 have:=hP.b0;have:=hP.b1;have:=hP.b2;have:=hP.b3;omega
theorem DicAt.newRec {p:PlanM}{P:Pools}{s n:Nat}{cs:List Int}{u:V6}{t:Tab}{q:Nat→Nat}{hi:Nat}(D:DicAt p P s n cs u t q hi){key:List Int}{sl:Nat}(hp:probe t n (homeD n key) key n 0=(0,(sl:Int)))
  (hk:key.length≤100) (hb:∀x∈key,Byte x) (hf:u.a4+(2+(((key.length+3)/4:Nat):Int))≤p.size.a4):
  sl<n∧t sl=none∧DicAt p P s n (putC cs hi (s+sl) key.length (packC key)) { u with a4:=u.a4+(2+(((key.length+3)/4:Nat):Int)) } (t.put sl (key,hi)) q (hi+2+(packC key).length)∧
   (putC cs hi (s+sl) key.length (packC key))[hi]? =some 0∧hi≠0∧(∀i,i<hi+1∨s+n≤i∨(hi+2+(packC key).length≤i∧i<s)→(putC cs hi (s+sl) key.length (packC key))[i]? =cs[i]?)∧hi+2+(key.length+3)/4≤cs.length∧s+sl<cs.length:=by
 have hlo:=lo_ge D.ok;have hbase:=D.base;have hhi:=D.top;have ha4:=D.a4;have hbk:=D.book;have hlen:=D.rep.len;have hpl:(packC key).length=(key.length+3)/4:=packC_len _;obtain⟨h1,h2,h3⟩:=D.wf.put D.n0 hp hi (by omega)
 have hR:=D.rep.put (key:=key) (hi':=hi+2+(packC key).length) h1 h2 (by omega) rfl (by omega) hk hb
 have out:∀i,(i<hi+1∨hi+2+(packC key).length≤i)→i≠s+sl→(putC cs hi (s+sl) key.length (packC key))[i]? =cs[i]? :=by
  intro i g1 g2;unfold putC;rw[List.getElem?_set_ne (fun e=>g2 e.symm),storesC_out _ _ _ _ _ (by omega),List.getElem?_set_ne (by omega)]
 refine⟨h1,h2,⟨D.ok,D.lays,D.n0,D.n1,hR,h3,hbase,?_,?_,hbk,?_,?_,?_,?_,?_,?_⟩,?_,by omega,fun i hi0=>?_,by omega,by omega⟩
 ·dsimp only;omega
 ·dsimp only;omega
 ·intro i g1 g2;rw[out i (Or.inr g1) (by omega)]
  exact D.zero i (by omega) g2
 ·intro i k a i' k' a' g1 g2 e1 e2
  by_cases c1:i=sl
  ·subst c1;rw[Tab.put_self]at e1;injection e1 with e1;injection e1 with e1 e3
   subst e1 e3
   by_cases c2:i'=i
   ·subst c2;rw[Tab.put_self]at e2;injection e2 with e2;injection e2 with _ e3
    exact Or.inl e3
   ·rw[Tab.put_ne _ _ c2]at e2;have:=(D.rep.lies _ _ _ g2 e2).2.1;exact Or.inr (Or.inr this)
  ·rw[Tab.put_ne _ _ c1]at e1
   by_cases c2:i'=sl
   ·subst c2;rw[Tab.put_self]at e2;injection e2 with e2;injection e2 with e2 e3
    subst e2 e3;have:=(D.rep.lies _ _ _ g1 e1).2.1;exact Or.inr (Or.inl this)
   ·rw[Tab.put_ne _ _ c2]at e2;exact D.apart _ _ _ _ _ _ g1 g2 e1 e2
 ·intro i k a g1 e1
  by_cases c1:i=sl
  ·subst c1;rw[Tab.put_self]at e1;injection e1 with e1;injection e1 with e1 e3
   subst e1 e3;refine⟨0,none,?_,Or.inl ⟨rfl,rfl⟩⟩;rw[out _ (Or.inl (by omega)) (by omega)]
   exact D.zero _ (Nat.le_refl _) (by omega)
  ·rw[Tab.put_ne _ _ c1]at e1;have:=(D.rep.lies _ _ _ g1 e1).2.1;rw[out _ (Or.inl (by omega)) (by omega)]
   exact D.tails _ _ _ g1 e1
 ·intro k hk;have:=D.used k hk
  rcases k_cases hk with rfl|rfl|rfl|rfl<;>exact this
 ·have:=D.len;exact putC_u32 D.u32 (by omega) (by unfold U32;omega) (packC_range hb)
 ·rw[putC_len];exact D.len
 ·rw[out _ (Or.inl (by omega)) (by omega)]
  exact D.zero _ (Nat.le_refl _) (by omega)
 ·exact out i (by omega) (by omega)
theorem DicAt.word {p:PlanM}{P:Pools}{s n:Nat}{cs:List Int}{u:V6}{t:Tab}{q:Nat→Nat}{hi:Nat}(D:DicAt p P s n cs u t q hi){i a:Nat}{k:List Int}(hi':i<n)(e:t i=some (k,a))
  {tl:Nat} {x:Option (Nat×Nat×Nat)} (hx:TailIs P q tl x) {m:Nat} (hf:∀k,k≤3→(refL (m+1) (leftOf x) (classOf x) u).uK k≤p.sK k) {wd:Int} (hwd:U32 wd):
  ∃cs2 t2 u2 q2 x2,PutsTo p cs u tl wd cs2 t2 u2∧DicAt p P s n (cs2.set a (t2:Int)) u2 t q2 hi∧TailIs P q2 t2 x2∧refL (m+1) (leftOf x) (classOf x) u=refL m (leftOf x2) (classOf x2) u2∧u2.a4=u.a4∧u2.a5=u.a5∧
   (∀j,(j<3∨P.b 3+256*P.n 3≤j)→j≠a→(cs2.set a (t2:Int))[j]? =cs[j]?)∧(cs2.set a (t2:Int))[a]? =some (t2:Int)∧cs2.length=cs.length∧∀k,q k≤q2 k:=by
 have hlo:=lo_ge D.ok;have hbk:=D.book;have hbase:=D.base;have ha4:=D.a4;have hlen:=D.rep.len;have hsb:=D.rep.book;obtain⟨r1,r2,_,_⟩:=D.rep.lies _ _ _ hi' e;obtain⟨cs2,t2,u2,q2,x2,h1,h2,h3,h4,h5,h6,h7,h8⟩:=hx.put D.ok D.lays D.used hf (cs:=cs) (by omega) wd
 have hl:=h1.len;have out:∀j,(j<3∨P.b 3+256*P.n 3≤j)→j≠a→(cs2.set a (t2:Int))[j]? =cs[j]? :=fun j g1 g2=>by
  rw[List.getElem?_set_ne (fun e=>g2 e.symm)];exact h6 j g1
 have hself:(cs2.set a (t2:Int))[a]? =some (t2:Int):=List.getElem?_set_self (by rw[hl.1];omega)
 refine⟨cs2,t2,u2,q2,x2,h1,⟨D.ok,D.lays,D.n0,D.n1,?_,D.wf,hbase,by rw[h7];exact D.top,by rw[h7];exact ha4,hbk,?_,D.apart,?_,h3,?_,?_⟩,h2,h5,h7,h8,out,hself,hl.1,h4⟩
 ·have R:=D.rep;refine⟨by rw[List.length_set,hl.1];exact R.len,R.book,R.pos,fun j hj ej=>?_,fun j k' a' hj ej=>?_,R.lies,fun j k' a' hj ej=>?_,fun j k' a' hj ej jj c hc=>?_⟩
  ·rw[out _ (Or.inr (by omega)) (by omega)];exact R.void j hj ej
  ·rw[out _ (Or.inr (by omega)) (by omega)];exact R.slot j k' a' hj ej
  ·obtain⟨g1,g2,_,_⟩:=R.lies _ _ _ hj ej;have:=D.apart _ _ _ _ _ _ hi' hj e ej;rw[out _ (Or.inr (by omega)) (by omega)];exact R.size j k' a' hj ej
  ·obtain⟨g1,g2,_,_⟩:=R.lies _ _ _ hj ej;have hjl:jj<(packC k').length:=(List.getElem?_eq_some_iff.1 hc).1;have:=D.apart _ _ _ _ _ _ hi' hj e ej;rw[out _ (Or.inr (by omega)) (by omega)];exact R.key j k' a' hj ej jj c hc
 ·intro j g1 g2;have:=D.top;rw[out _ (Or.inr (by omega)) (by omega)]
  exact D.zero j g1 g2
 ·intro j k' a' hj ej
  by_cases ha:a'=a
  ·subst ha;exact⟨t2,x2,hself,h2⟩
  ·obtain⟨g1,g2,_,_⟩:=D.rep.lies _ _ _ hj ej;obtain⟨tl',x',g3,g4⟩:=D.tails _ _ _ hj ej;exact⟨tl',x',by rw[out _ (Or.inr g1) ha];exact g3,g4.mono h4⟩
 ·have hn:=D.len;refine set_u32 (h1.u32 D.u32 ?_ hwd) (by unfold U32;omega) _
  have:=tail_lt D.ok hx
  omega
 ·rw[List.length_set,hl.1];exact D.len
theorem V6.ext' {u v:V6}(h0:u.a0=v.a0)(h1:u.a1=v.a1)(h2:u.a2=v.a2)(h3:u.a3=v.a3)(h4:u.a4=v.a4)(h5:u.a5=v.a5):u=v:=by
 cases u;cases v;simp_all
theorem V6.add_assoc (u v w:V6):(u.add v).add w=u.add (v.add w):=by
 unfold V6.add;refine V6.ext' ?_ ?_ ?_ ?_ ?_ ?_<;>dsimp only<;>omega
theorem V6.add_left (u v w:V6):u.add (v.add w)=v.add (u.add w):=by
 unfold V6.add;refine V6.ext' ?_ ?_ ?_ ?_ ?_ ?_<;>dsimp only<;>omega
theorem V6.zero_add (u:V6):zerosN.add u=u:=by
 unfold V6.add zerosN;refine V6.ext' ?_ ?_ ?_ ?_ ?_ ?_<;>dsimp only<;>omega
theorem V6.addg (u v:V6)(k:Nat):(u.add v).g6 k=u.g6 k+v.g6 k:=by unfold V6.g6;split<;>rfl
theorem V6.g_of (u:V6){k:Nat}(h:k≤3):u.g6 k=u.uK k:=by rcases k_cases h with rfl|rfl|rfl|rfl<;>rfl
theorem PlanM.g_of (p:PlanM){k:Nat}(h:k≤3):p.size.g6 k=p.sK k:=by rcases k_cases h with rfl|rfl|rfl|rfl<;>rfl
theorem refL_45:∀(n left k:Nat) (u:V6),(refL n left k u).a4=u.a4∧(refL n left k u).a5=u.a5:=by
 intro n
 induction n with
 |zero=>intro _ _ _;exact⟨rfl,rfl⟩
 |succ n ih=>
  intro left k u;rw[refL]
  split
  ·have:=ih (sz k-2) (min (k+1) 3) (u.up k (szK k));rw[this.1,this.2];unfold V6.up;split<;>exact⟨rfl,rfl⟩
  ·exact ih _ _ _
theorem TailIs.sum {p:PlanM}{P:Pools}(hP:P.ok)(hl:p.lays P){q:Nat→Nat}{t:Nat}{x:Option (Nat×Nat×Nat)}(h:TailIs P q t x)(u:V6)(m:Nat):refL m (leftOf x) (classOf x) u=u.add (p.need (t:Int) (m:Int)):=by
 rw[h.need hP hl,Int.toNat_natCast,←refL_add,V6.add_zero]
theorem TailIs.pos {p:PlanM}{P:Pools}(hP:P.ok)(hl:p.lays P){q:Nat→Nat}{t:Nat}{x:Option (Nat×Nat×Nat)}(h:TailIs P q t x)(m:Nat)(k:Nat)(hk:k<6):0≤(p.need (t:Int) (m:Int)).g6 k:=by
 rw[h.need hP hl,Int.toNat_natCast]
 by_cases h3:k≤3
 ·rw[V6.g_of _ h3];have:=refL_ge m (leftOf x) (classOf x) zerosN k;rw[zerosN_uK]at this;exact this
 ·have:=refL_45 m (leftOf x) (classOf x) zerosN
  rcases(by omega:k=4∨k=5)with rfl|rfl
  ·show 0≤(refL m (leftOf x) (classOf x) zerosN).a4;rw[this.1];decide
  ·show 0≤(refL m (leftOf x) (classOf x) zerosN).a5;rw[this.2];decide
def cntK (key:ByteArray):List TokI→Nat
 | []=>0
 |x::l=>(if keyB x.1 x.2.1=key then 1 else 0)+cntK key l
def bookV (key:ByteArray):V6:=⟨0,0,0,0,2+(((key.size+3)/4:Nat):Int),0⟩
def ndT (p:PlanM)(y:TermM)(m:Nat):V6:=(if y.recd=0 then bookV y.key else zerosN).add (p.need y.tl (m:Int))
def sumN (p:PlanM)(l:List TokI):List TermM→V6
 | []=>zerosN
 |y::r=>(ndT p y (cntK y.key l)).add (sumN p l r)
def freshN:List TermM→Nat
 | []=>0
 |y::r=>(if y.recd=0 then 1 else 0)+freshN r
def occ (t:Tab):Nat→Nat
 |0=>0
 |n+1=>occ t n+(if(t n).isSome=true then 1 else 0)
theorem occ_void {t:Tab}:∀{n:Nat},occ t n<n→∃i,i<n∧t i=none
 |0,h=>by cases h
 |n+1,h=>by
  unfold occ at h
  cases e:t n with
  |none=>exact⟨n,Nat.lt_succ_self n,e⟩
  |some p=>
   rw[e]at h;simp only[Option.isSome_some,if_true]at h;obtain⟨i,h1,h2⟩:=occ_void (t:=t) (n:=n) (by omega)
   exact⟨i,by omega,h2⟩
theorem occ_same {t:Tab}{sl:Nat}(e:List Int×Nat):∀{n:Nat},n≤sl→occ (t.put sl e) n=occ t n
 |0,_=>rfl
 |n+1,h=>by
  unfold occ;rw[occ_same e (by omega),Tab.put_ne _ _ (by omega)]
theorem occ_put {t:Tab}{sl:Nat}(e:List Int×Nat)(h:t sl=none):∀{n:Nat},sl<n→occ (t.put sl e) n=occ t n+1
 |0,hs=>by cases hs
 |n+1,hs=>by
  unfold occ
  by_cases c:sl=n
  ·subst c;rw[occ_same e (Nat.le_refl _),Tab.put_self,h]
   simp
  ·rw[occ_put e h (by omega),Tab.put_ne _ _ (by omega)]
   omega
theorem probe_slot {t:Tab}{n:Nat}(hn:0<n)(h:Nat)(key:List Int)(hv:∃i,i<n∧t i=none):∃sl:Nat,sl<n∧(probe t n h key n 0).2=(sl:Int):=by
 rcases probe_cases t n h key n 0 with⟨j,_,_,_,⟨_,h5⟩|⟨a,_,h5⟩⟩|⟨g1,_⟩
 ·rw[h5];exact⟨_,Nat.mod_lt _ hn,rfl⟩
 ·rw[h5];exact⟨_,Nat.mod_lt _ hn,rfl⟩
 ·exfalso
  obtain⟨i,hi,he⟩:=hv;have hr:=Nat.mod_lt h hn;obtain⟨k,a,e,_⟩:=g1 ((i+(n-h%n))%n) (Nat.zero_le _) (by have:=Nat.mod_lt (i+(n-h%n)) hn;omega)
  have:(h+(i+(n-h%n))%n)%n=i:=by
   rw[Nat.add_mod,Nat.mod_mod,←Nat.add_mod,show h+(i+(n-h%n))=(h/n+1)*n+i from by
    have h1:=Nat.div_add_mod h n;have h2:(h/n+1)*n=n*(h/n)+n:=by rw[Nat.add_mul,Nat.one_mul,Nat.mul_comm]
    omega,Nat.mul_add_mod_self_right,Nat.mod_eq_of_lt hi]
  rw[this,he]at e
  cases e
theorem probe_other {t:Tab}{n:Nat}(hn:0<n)(W:WF t n (homeD n)){key k':List Int}{sl a:Nat}(hs:t sl=none)(W':WF (t.put sl (key,a)) n (homeD n))(hne:k'≠key):
  (probe (t.put sl (key,a)) n (homeD n k') k' n 0).1=(probe t n (homeD n k') k' n 0).1:=by
 by_cases h0:(probe t n (homeD n k') k' n 0).1=0
 ·rw[h0]
  by_cases h1:(probe (t.put sl (key,a)) n (homeD n k') k' n 0).1=0
  ·exact h1
  ·exfalso
   obtain⟨j,b,hj,e,_,_⟩:=probe_sound (x:=(probe (t.put sl (key,a)) n (homeD n k') k' n 0).1) (y:=(probe (t.put sl (key,a)) n (homeD n k') k' n 0).2) rfl h1 hn
   by_cases hjs:j=sl
   ·subst hjs;rw[Tab.put_self]at e;injection e with e;injection e with e _
    exact hne e.symm
   ·rw[Tab.put_ne _ _ hjs]at e;have h2:=probe_complete W hj e;rw[h2]at h0;have h3:=W.pos _ _ _ hj e;simp only at h0
    omega
 ·obtain⟨j,b,hj,e,hb,_⟩:=probe_sound (x:=(probe t n (homeD n k') k' n 0).1) (y:=(probe t n (homeD n k') k' n 0).2) rfl h0 hn;rw[hb,probe_complete W' hj (Tab.put_le hs _ _ e)]
theorem Rep.key_of {cs:List Int}{s n:Nat}{t:Tab}{lo hi:Nat}(R:Rep cs s n t lo hi){i i':Nat}{k k':List Int}{a:Nat}(h1:i<n)(h2:i'<n)(e1:t i=some (k,a))(e2:t i'=some (k',a)):k=k':=by
 have a1:=R.size _ _ _ h1 e1;have a2:=R.size _ _ _ h2 e2;rw[a1]at a2;injection a2 with a2
 have hl:k.length=k'.length:=by omega
 refine packC_inj (R.lies _ _ _ h1 e1).2.2.2 (R.lies _ _ _ h2 e2).2.2.2 hl (List.ext_getElem? fun j=>?_);have hpl:(packC k).length=(packC k').length:=by rw[packC_len,packC_len,hl]
 by_cases hj:j<(packC k).length
 ·have b1:=R.key _ _ _ h1 e1 j _ (List.getElem?_eq_getElem hj);have b2:=R.key _ _ _ h2 e2 j _ (List.getElem?_eq_getElem (by omega))
  rw[List.getElem?_eq_getElem hj,←b1,b2,←List.getElem?_eq_getElem]
 ·rw[List.getElem?_eq_none (by omega),List.getElem?_eq_none (by omega)]
structure TermsAt (cs:List Int)(t:Tab)(n:Nat)(all:List TermM)(l:List TokI):Prop where
 uniq:∀(i j:Nat) (y z:TermM),all[i]? =some y→all[j]? =some z→y.key=z.key→i=j
 look:∀y∈all,LookedUp cs t n y
 has:∀x∈l,hasK (keyB x.1 x.2.1) all
 size:∀y∈all,y.key.size≤17
 cnt:∀y∈all,y.recd=0→1≤cntK y.key l
theorem sumN_mem {p:PlanM}{l:List TokI}:∀{all:List TermM},(∀y∈all,∀k,k<6→0≤(ndT p y (cntK y.key l)).g6 k)→(∀k,k<6→0≤(sumN p l all).g6 k)∧∀y∈all,∀k,k<6→(ndT p y (cntK y.key l)).g6 k≤(sumN p l all).g6 k
 | [],_=>⟨fun k _=>by show 0≤zerosN.g6 k;unfold V6.g6 zerosN;split<;>decide,fun y hy=>by cases hy⟩
 |y::r,h=>by
  have ih:=sumN_mem (p:=p) (l:=l) (all:=r) fun z hz=>h z (List.mem_cons_of_mem _ hz);have h0:=h y List.mem_cons_self;refine⟨fun k hk=>?_,fun z hz k hk=>?_⟩
  ·show 0≤((ndT p y (cntK y.key l)).add (sumN p l r)).g6 k;rw[V6.addg];have:=ih.1 k hk;have:=h0 k hk
   omega
  ·show _≤((ndT p y (cntK y.key l)).add (sumN p l r)).g6 k;rw[V6.addg];have a1:=ih.1 k hk;have a2:=h0 k hk
   rcases List.mem_cons.1 hz with rfl|hz
   ·omega
   ·have:=ih.2 z hz k hk
    omega
theorem sumN_rest {p:PlanM}{l l':List TokI}:∀{all:List TermM},(∀z∈all,cntK z.key l'=cntK z.key l)→sumN p l' all=sumN p l all
 | [],_=>rfl
 |y::r,h=>by
  show(ndT p y (cntK y.key l')).add (sumN p l' r)=(ndT p y (cntK y.key l)).add (sumN p l r);rw[h y List.mem_cons_self,sumN_rest fun z hz=>h z (List.mem_cons_of_mem _ hz)]
theorem sumN_set {p:PlanM}{l l':List TokI}{u u2:V6}{y y':TermM}:∀{all:List TermM} {i:Nat},all[i]? =some y→(∀j z,all[j]? =some z→j≠i→cntK z.key l'=cntK z.key l)→
  u2.add (ndT p y' (cntK y'.key l'))=u.add (ndT p y (cntK y.key l))→u2.add (sumN p l' (all.set i y'))=u.add (sumN p l all)
 | [],i,h,_,_=>by simp at h
 |z::r,0,h,ho,he=>by
  have h:z=y:=by simpa using h
  subst h;show u2.add ((ndT p y' (cntK y'.key l')).add (sumN p l' r))=u.add ((ndT p z (cntK z.key l)).add (sumN p l r));rw[←V6.add_assoc,he,V6.add_assoc,sumN_rest (l':=l') (l:=l) fun w hw=>by
   obtain⟨j,hj⟩:=List.mem_iff_getElem?.1 hw;exact ho (j+1) w (by simpa using hj) (by omega)]
 |z::r,i+1,h,ho,he=>by
  show u2.add ((ndT p z (cntK z.key l')).add (sumN p l' (r.set i y')))=u.add ((ndT p z (cntK z.key l)).add (sumN p l r));rw[V6.add_left,sumN_set (all:=r) (i:=i) (by simpa using h) (fun j w hw hj=>ho (j+1) w (by simpa using hw) (by omega)) he,V6.add_left,ho 0 z rfl (by omega)]
theorem freshN_set {y y':TermM}(h':y'.recd≠0):∀{all:List TermM} {i:Nat},all[i]? =some y→freshN all=freshN (all.set i y')+(if y.recd=0 then 1 else 0)
 | [],i,h=>by simp at h
 |z::r,0,h=>by
  have h:z=y:=by simpa using h
  subst h;show(if z.recd=0 then 1 else 0)+freshN r=((if y'.recd=0 then 1 else 0)+freshN r)+_
  rw[if_neg h']
  omega
 |z::r,i+1,h=>by
  show(if z.recd=0 then 1 else 0)+freshN r=((if z.recd=0 then 1 else 0)+freshN (r.set i y'))+_
  have:=freshN_set h' (all:=r) (i:=i) (by simpa using h)
  omega
theorem cntK_self (x:TokI)(l:List TokI):cntK (keyB x.1 x.2.1) (x::l)=cntK (keyB x.1 x.2.1) l+1:=by
 show(if keyB x.1 x.2.1=keyB x.1 x.2.1 then 1 else 0)+cntK (keyB x.1 x.2.1) l=_
 rw[if_pos rfl];omega
theorem cntK_other {x:TokI}{key:ByteArray}(l:List TokI)(h:keyB x.1 x.2.1≠key):cntK key (x::l)=cntK key l:=by
 show(if keyB x.1 x.2.1=key then 1 else 0)+cntK key l=_
 rw[if_neg h];omega
end Go.Proofs.YtogdknnkhkjmcaaGreatDoor
