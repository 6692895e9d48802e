/- Plain laws: dictionaries: programs as trees, what they answer on cells that hold a table. -/
import Derived.Test.YtogdknnkhkjmcaaGreatDoorJPool
import Derived.Test.YtogdknnkhkjmcaaGreatDoorJTable
namespace Go.Proofs.YtogdknnkhkjmcaaGreatDoor
open Go.RowKit
set_option linter.all false
def cmpD (a:Int):List Int→Nat→Tree Bool
 | [],_=> .ret true
 |c::cs,k=> .load (a+2+k) fun x=>if x≠c then .ret false else .off fun o=>if o=true then .ret false else cmpD a cs (k+1)
def findD (s:Int)(n h:Nat)(cells:List Int)(len:Int):Nat→Nat→Tree (Int×Int)
 |0,_=> .ret (0,-1)
 |f+1,i=> .load (s+(((h+i)%n:Nat):Int)) fun a=> .off fun o=>if o=true then .ret (0,-1)else if a=0 then .ret (0,(((h+i)%n:Nat):Int))else
   .load (a+1) fun ln=>if ln≠len then findD s n h cells len f (i+1)else
    (cmpD a cells 0).bind fun ok=>if ok=true then .ret (a,(((h+i)%n:Nat):Int))else findD s n h cells len f (i+1)
def storesD (a:Int):List Int→Nat→Tree Unit
 | [],_=> .ret ()
 |c::cs,k=> .store (a+2+k) c (storesD a cs (k+1))
def putD (a sl len:Int)(cells:List Int):Tree Unit:= .store (a+1) len ((storesD a cells 0).bind fun _=> .store sl a (.ret ()))
abbrev Tab:Type:=Nat→Option (List Int×Nat)
def Tab.le (t t':Tab):Prop:=∀i e,t i=some e→t' i=some e
def Tab.put (t:Tab)(i:Nat)(e:List Int×Nat):Tab:=fun j=>if j=i then some e else t j
structure Rep (cs:List Int)(s n:Nat)(t:Tab)(lo hi:Nat):Prop where
 len:s+n≤cs.length
 book:hi≤s
 pos:1≤lo
 void:∀i,i<n→t i=none→cs[s+i]? =some 0
 slot:∀i k a,i<n→t i=some (k,a)→cs[s+i]? =some (a:Int)
 lies:∀i k a,i<n→t i=some (k,a)→lo≤a∧a+2+(packC k).length≤hi∧k.length≤100∧(∀x∈k,Byte x)
 size:∀i k a,i<n→t i=some (k,a)→cs[a+1]? =some (k.length:Int)
 key:∀i k a,i<n→t i=some (k,a)→∀(j:Nat) (c:Int),(packC k)[j]? =some c→cs[a+2+j]? =some c
def probe (t:Tab)(n h:Nat)(key:List Int):Nat→Nat→Int×Int
 |0,_=>(0,-1)
 |f+1,i=>match t ((h+i)%n)with
  |none=>(0,(((h+i)%n:Nat):Int))
  |some (k,a)=>if k=key then((a:Int),(((h+i)%n:Nat):Int))else probe t n h key f (i+1)
theorem probe_none {t:Tab}{n h f i:Nat}{key:List Int}(e:t ((h+i)%n)=none):probe t n h key (f+1) i=(0,(((h+i)%n:Nat):Int)):=by
 show(match t ((h+i)%n)with|none=>_|some (k,a)=>_)=_
 rw[e]
theorem probe_hit {t:Tab}{n h f i a:Nat}{key:List Int}(e:t ((h+i)%n)=some (key,a)):probe t n h key (f+1) i=((a:Int),(((h+i)%n:Nat):Int)):=by
 show(match t ((h+i)%n)with|none=>_|some (k,a)=>_)=_
 rw[e];simp
theorem probe_miss {t:Tab}{n h f i a:Nat}{key k:List Int}(e:t ((h+i)%n)=some (k,a))(hk:k≠key):probe t n h key (f+1) i=probe t n h key f (i+1):=by
 show(match t ((h+i)%n)with|none=>_|some (k,a)=>_)=_
 rw[e];simp[hk]
theorem getD_of {cs:List Int}{i:Nat}{x:Int}(h:cs[i]? =some x):i<cs.length∧cs.getD i 0=x:=by
 refine⟨(List.getElem?_eq_some_iff.1 h).1,?_⟩;rw[List.getD_eq_getElem?_getD,h];rfl
theorem load_ideal {α:Type}{k:Int→Tree α}{cs:List Int}{a:Int}{i:Nat}{x:Int}(ha:a=i)(h:cs[i]? =some x):
  (Tree.load a k).ideal cs=((k x).ideal cs).map fun y=>(y.1,y.2.1,y.2.2+1):=by
 obtain⟨h1,h2⟩:=getD_of h;subst ha;show(if 0≤(i:Int)∧(i:Int)<cs.length then _ else _)=_
 rw[if_pos ⟨by omega,by omega⟩,Int.toNat_natCast,h2]
theorem cmpD_ideal {cs:List Int}{a:Nat}:∀(L2 L1:List Int) (k:Nat),L1.length=L2.length→(∀(j:Nat) c,L1[j]? =some c→cs[a+2+k+j]? =some c)→
  ∃n,n≤L2.length∧(cmpD a L2 k).ideal cs=some (decide (L1=L2),cs,n)
 | [],L1,k,hl,_=>by
  have:L1=[]:=List.length_eq_zero_iff.1 hl;subst this;exact⟨0,Nat.le_refl _,rfl⟩
 |c::L2,[],k,hl,_=>by simp at hl
 |c::L2,d::L1,k,hl,h=>by
  have h0:=h 0 d rfl;have e:=load_ideal (k:=fun x=>if x≠c then Tree.ret false else .off fun o=>if o=true then .ret false else cmpD a L2 (k+1)) (a:=(a:Int)+2+k) (i:=a+2+k+0) (by omega) h0
  unfold cmpD;rw[e]
  by_cases hdc:d=c
  ·subst hdc;rw[if_neg (by simp)]
   obtain⟨n,hn,hi⟩:=cmpD_ideal L2 L1 (k+1) (by simpa using hl) (fun j c hj=>by
    have:=h (j+1) c (by simpa using hj)
    rw[←this,show a+2+(k+1)+j=a+2+k+(j+1) by omega])
   refine⟨n+1,by simp;omega,?_⟩
   show((cmpD (a:Int) L2 (k+1)).ideal cs).map _=_;rw[hi];simp
  ·rw[if_pos hdc];refine⟨1,by simp,?_⟩
   simp[Tree.ideal,hdc]
theorem findD_ideal {cs:List Int}{s n:Nat}{t:Tab}{lo hi:Nat}(R:Rep cs s n t lo hi)(hn:0<n)(h:Nat)(key:List Int)(hk:∀x∈key,Byte x):∀(f i:Nat),
  ∃cnt,cnt≤f*27∧(findD s n h (packC key) key.length f i).ideal cs=some (probe t n h key f i,cs,cnt)
 |0,i=>⟨0,by omega,rfl⟩
 |f+1,i=>by
  have hlt:(h+i)%n<n:=Nat.mod_lt _ hn;obtain⟨cnt,hc,hi'⟩:=findD_ideal R hn h key hk f (i+1)
  cases e:t ((h+i)%n)with
  |none=>
   refine⟨1,by omega,?_⟩
   rw[probe_none e];unfold findD;rw[load_ideal (i:=s+(h+i)%n) (by omega) (R.void _ hlt e)]
   rfl
  |some p=>
   obtain⟨k,a⟩:=p;obtain⟨r1,r2,r3,r4⟩:=R.lies _ _ _ hlt e;have hpos:=R.pos;unfold findD;rw[load_ideal (i:=s+(h+i)%n) (by omega) (R.slot _ _ _ hlt e)]
   have step2:(Tree.load ((a:Int)+1) fun ln=>if ln≠(key.length:Int)then findD s n h (packC key) key.length f (i+1)else
     (cmpD a (packC key) 0).bind fun ok=>if ok=true then .ret ((a:Int),(((h+i)%n:Nat):Int))else findD s n h (packC key) key.length f (i+1)).ideal cs=
     ((if(k.length:Int)≠(key.length:Int)then findD s n h (packC key) key.length f (i+1)else
     (cmpD a (packC key) 0).bind fun ok=>if ok=true then .ret ((a:Int),(((h+i)%n:Nat):Int))else findD s n h (packC key) key.length f (i+1)).ideal cs).map fun y=>(y.1,y.2.1,y.2.2+1):=
    load_ideal (i:=a+1) (by omega) (R.size _ _ _ hlt e)
   have hz:((a:Int)=0)=False:=by simp;omega
   have inner:∃c2,c2≤f*27+26∧(Tree.load ((a:Int)+1) fun ln=>if ln≠(key.length:Int)then findD s n h (packC key) key.length f (i+1)else
     (cmpD a (packC key) 0).bind fun ok=>if ok=true then .ret ((a:Int),(((h+i)%n:Nat):Int))else findD s n h (packC key) key.length f (i+1)).ideal cs=some (probe t n h key (f+1) i,cs,c2):=by
    rw[step2]
    by_cases hl:k.length=key.length
    ·rw[if_neg (by simp[hl])]
     have hpl:(packC k).length=(packC key).length:=by rw[packC_len,packC_len,hl]
     obtain⟨m,hm,hmi⟩:=cmpD_ideal (cs:=cs) (a:=a) (packC key) (packC k) 0 hpl (fun j c hj=>R.key _ _ _ hlt e j c hj);rw[Tree.ideal_bind,hmi];have hml:m≤25:=by rw[packC_len]at hm;omega
     exact c98
    ·rw[if_pos (by omega),hi',probe_miss e (fun e=>hl (by rw[e]))]
     exact⟨cnt+1,by omega,rfl⟩
   obtain⟨c2,h1,h2⟩:=inner;refine⟨c2+1,by omega,?_⟩
   have:((fun a:Int=>Tree.off fun o=>if o=true then .ret ((0:Int),(-1:Int))else if a=0 then .ret ((0:Int),(((h+i)%n:Nat):Int))else
    .load (a+1) fun ln=>if ln≠(key.length:Int)then findD s n h (packC key) key.length f (i+1)else
    (cmpD a (packC key) 0).bind fun ok=>if ok=true then .ret (a,(((h+i)%n:Nat):Int))else findD s n h (packC key) key.length f (i+1)) (a:Int)).ideal cs=some (probe t n h key (f+1) i,cs,c2):=by
    show(if false=true then _ else if(a:Int)=0 then _ else _:Tree (Int×Int)).ideal cs=_
    rw[if_neg (by decide),if_neg (by rw[hz];exact id)]
    exact h2
   rw[this];rfl
structure WF (t:Tab)(n:Nat)(hash:List Int→Nat):Prop where
 pos:∀i k a,i<n→t i=some (k,a)→0<a
 path:∀i k a,i<n→t i=some (k,a)→∃j,j<n∧(hash k+j)%n=i∧∀j',j'<j→∃k' a',t ((hash k+j')%n)=some (k',a')∧k'≠k
theorem probe_cases (t:Tab)(n h:Nat)(key:List Int):∀(f i:Nat),
  (∃j,i≤j∧j<i+f∧(∀j',i≤j'→j'<j→∃k a,t ((h+j')%n)=some (k,a)∧k≠key)∧
   ((t ((h+j)%n)=none∧probe t n h key f i=(0,(((h+j)%n:Nat):Int)))∨∃a:Nat,t ((h+j)%n)=some (key,a)∧probe t n h key f i=((a:Int),(((h+j)%n:Nat):Int))))∨
  ((∀j',i≤j'→j'<i+f→∃k a,t ((h+j')%n)=some (k,a)∧k≠key)∧probe t n h key f i=(0,-1))
 |0,i=>Or.inr ⟨fun j' h1 h2=>by omega,rfl⟩
 |f+1,i=>by
  cases e:t ((h+i)%n)with
  |none=>exact Or.inl ⟨i,Nat.le_refl _,by omega,fun j' h1 h2=>by omega,Or.inl ⟨e,probe_none e⟩⟩
  |some p=>
   obtain⟨k,a⟩:=p
   by_cases hk:k=key
   ·subst hk;exact Or.inl ⟨i,Nat.le_refl _,by omega,fun j' h1 h2=>by omega,Or.inr ⟨a,e,probe_hit e⟩⟩
   ·rw[probe_miss e hk]
    rcases probe_cases t n h key f (i+1)with⟨j,h1,h2,h3,h4⟩|⟨h1,h2⟩
    ·refine Or.inl ⟨j,by omega,by omega,fun j' g1 g2=>?_,h4⟩
     rcases Nat.eq_or_lt_of_le g1 with rfl|g
     ·exact⟨k,a,e,hk⟩
     ·exact h3 j' (by omega) g2
    ·refine Or.inr ⟨fun j' g1 g2=>?_,h2⟩
     rcases Nat.eq_or_lt_of_le g1 with rfl|g
     ·exact⟨k,a,e,hk⟩
     ·exact h1 j' (by omega) (by omega)
theorem probe_sound {t:Tab}{n h:Nat}{key:List Int}{f i:Nat}{x y:Int}(e:probe t n h key f i=(x,y))(hx:x≠0)(hn:0<n):∃j a:Nat,j<n∧t j=some (key,a)∧x=a∧y=j:=by
 rcases probe_cases t n h key f i with⟨j,_,_,_,⟨_,h5⟩|⟨a,h4,h5⟩⟩|⟨_,h2⟩
 ·rw[h5]at e;injection e with e1 _;exact absurd e1.symm hx
 ·rw[h5]at e;injection e with e1 e2
  exact⟨(h+j)%n,a,Nat.mod_lt _ hn,h4,e1.symm,e2.symm⟩
 ·rw[h2]at e;injection e with e1 _;exact absurd e1.symm hx
theorem probe_complete {t:Tab}{n:Nat}{hash:List Int→Nat}(W:WF t n hash){i:Nat}{k:List Int}{a:Nat}(hi:i<n)(e:t i=some (k,a)):probe t n (hash k) k n 0=((a:Int),(i:Int)):=by
 obtain⟨j,h1,h2,h3⟩:=W.path i k a hi e
 rcases probe_cases t n (hash k) k n 0 with⟨j1,g1,g2,g3,g4⟩|⟨g1,_⟩
 ·rcases Nat.lt_trichotomy j1 j with h|h|h
  ·obtain⟨k',a',p1,p2⟩:=h3 j1 h
   rcases g4 with⟨g5,_⟩|⟨a2,g5,_⟩
   ·rw[g5]at p1;cases p1
   ·rw[g5]at p1;injection p1 with p1;injection p1 with p1 _;exact absurd p1.symm p2
  ·subst h;rw[h2]at g4
   rcases g4 with⟨g5,_⟩|⟨a2,g5,g6⟩
   ·rw[g5]at e;cases e
   ·rw[g5]at e;injection e with e;injection e with _ e;subst e;exact g6
  ·obtain⟨k',a',p1,p2⟩:=g3 j (Nat.zero_le _) h;rw[h2,e]at p1;injection p1 with p1;injection p1 with p1 _;exact absurd p1.symm p2
 ·obtain⟨k',a',p1,p2⟩:=g1 j (Nat.zero_le _) (by omega)
  rw[h2,e]at p1;injection p1 with p1;injection p1 with p1 _;exact absurd p1.symm p2
theorem WF.empty (n:Nat)(hash:List Int→Nat):WF (fun _=>none) n hash:=⟨fun _ _ _ _ e=>(by cases e),fun _ _ _ _ e=>(by cases e)⟩
theorem Tab.put_le {t:Tab}{i:Nat}{e:List Int×Nat}(h:t i=none):t.le (t.put i e):=by
 intro j x hx;unfold Tab.put
 split
 ·rename_i hj;subst hj;rw[h]at hx;cases hx
 ·exact hx
theorem Tab.put_self (t:Tab)(i:Nat)(e:List Int×Nat):t.put i e i=some e:=by simp[Tab.put]
theorem Tab.put_ne (t:Tab){i j:Nat}(e:List Int×Nat)(h:j≠i):t.put i e j=t j:=by simp[Tab.put,h]
theorem WF.put {t:Tab}{n:Nat}{hash:List Int→Nat}(W:WF t n hash)(hn:0<n){key:List Int}{sl:Nat}(hp:probe t n (hash key) key n 0=(0,(sl:Int)))(a:Nat)(ha:0<a):
  sl<n∧t sl=none∧WF (t.put sl (key,a)) n hash:=by
 rcases probe_cases t n (hash key) key n 0 with⟨j,_,h2,h3,⟨h4,h5⟩|⟨a2,h4,h5⟩⟩|⟨_,h2⟩
 ·rw[hp]at h5;injection h5 with _ h5
  have hs:sl=(hash key+j)%n:=by omega
  rw[←hs]at h4;refine⟨by rw[hs];exact Nat.mod_lt _ hn,h4,⟨fun i k b hi e=>?_,fun i k b hi e=>?_⟩⟩
  ·by_cases his:i=sl
   ·subst his;rw[Tab.put_self]at e;injection e with e;injection e with e1 e2
    omega
   ·rw[Tab.put_ne _ _ his]at e;exact W.pos i k b hi e
  by_cases his:i=sl
  ·subst his;rw[Tab.put_self]at e;injection e with e;injection e with e1 e2
   subst e1 e2;refine⟨j,by omega,hs.symm,fun j' hj'=>?_⟩
   obtain⟨k',a',p1,p2⟩:=h3 j' (Nat.zero_le _) hj';exact⟨k',a',Tab.put_le h4 _ _ p1,p2⟩
  ·rw[Tab.put_ne _ _ his]at e;obtain⟨j0,g1,g2,g3⟩:=W.path i k b hi e;exact⟨j0,g1,g2,fun j' hj'=>by
    obtain⟨k',a',p1,p2⟩:=g3 j' hj';exact⟨k',a',Tab.put_le h4 _ _ p1,p2⟩⟩
 ·rw[hp]at h5;injection h5 with h5 h6
  have:=W.pos _ _ _ (Nat.mod_lt _ hn) h4
  omega
 ·rw[hp]at h2;injection h2 with _ h2
  omega
def storesC (cs:List Int)(a:Nat):List Int→Nat→List Int
 | [],_=>cs
 |c::L,k=>storesC (cs.set (a+2+k) c) a L (k+1)
def putC (cs:List Int)(a sl:Nat)(len:Int)(L:List Int):List Int:=(storesC (cs.set (a+1) len) a L 0).set sl (a:Int)
theorem storesC_len (a:Nat):∀(L:List Int) (cs:List Int) (k:Nat),(storesC cs a L k).length=cs.length
 | [],cs,k=>rfl
 |c::L,cs,k=>by
  show(storesC (cs.set (a+2+k) c) a L (k+1)).length=_;rw[storesC_len a L,List.length_set]
theorem putC_len (cs:List Int)(a sl:Nat)(len:Int)(L:List Int):(putC cs a sl len L).length=cs.length:=by
 unfold putC;rw[List.length_set,storesC_len,List.length_set]
theorem storesC_out (a:Nat):∀(L:List Int) (cs:List Int) (k i:Nat),i<a+2+k∨a+2+k+L.length≤i→(storesC cs a L k)[i]? =cs[i]?
 | [],cs,k,i,_=>rfl
 |c::L,cs,k,i,h=>by
  show(storesC (cs.set (a+2+k) c) a L (k+1))[i]? =_;rw[List.length_cons]at h;rw[storesC_out a L _ (k+1) i (by omega),List.getElem?_set_ne (by omega)]
theorem storesC_in (a:Nat):∀(L:List Int) (cs:List Int) (k j:Nat) (c:Int),a+2+k+L.length≤cs.length→L[j]? =some c→(storesC cs a L k)[a+2+k+j]? =some c
 | [],cs,k,j,c,_,h=>by simp at h
 |d::L,cs,k,0,c,hl,h=>by
  have h:d=c:=by simpa using h
  subst h;show(storesC (cs.set (a+2+k) d) a L (k+1))[a+2+k]? =_;rw[List.length_cons]at hl;rw[storesC_out a L _ (k+1) _ (by omega),List.getElem?_set_self (by omega)]
 |d::L,cs,k,j+1,c,hl,h=>by
  show(storesC (cs.set (a+2+k) d) a L (k+1))[a+2+k+(j+1)]? =_;have e:a+2+k+(j+1)=a+2+(k+1)+j:=by omega
  rw[List.length_cons]at hl;rw[e];exact storesC_in a L _ (k+1) j c (by rw[List.length_set];omega) (by simpa using h)
theorem store_ideal {α:Type}{k:Tree α}{cs:List Int}{a v:Int}{i:Nat}(ha:a=i)(h:i<cs.length):
  (Tree.store a v k).ideal cs=(k.ideal (cs.set i v)).map fun y=>(y.1,y.2.1,y.2.2+1):=by
 subst ha;show(if 0≤(i:Int)∧(i:Int)<cs.length then _ else _)=_
 rw[if_pos ⟨by omega,by omega⟩,Int.toNat_natCast]
theorem storesD_ideal (a:Nat):∀(L:List Int) (cs:List Int) (k:Nat),a+2+k+L.length≤cs.length→(storesD a L k).ideal cs=some ((),storesC cs a L k,L.length)
 | [],cs,k,_=>rfl
 |c::L,cs,k,h=>by
  rw[List.length_cons]at h;unfold storesD;rw[store_ideal (i:=a+2+k) (by omega) (by omega),storesD_ideal a L _ (k+1) (by rw[List.length_set];omega)]
  rfl
theorem putD_ideal {cs:List Int}{a sl:Nat}{len:Int}{L:List Int}(h:a+2+L.length≤cs.length)(hs:sl<cs.length):
  (putD a sl len L).ideal cs=some ((),putC cs a sl len L,L.length+2):=by
 unfold putD;rw[store_ideal (i:=a+1) (by omega) (by omega),Tree.ideal_bind,storesD_ideal a L _ 0 (by rw[List.length_set];omega)]
 show((((Tree.store (sl:Int) (a:Int) (.ret ())).ideal (storesC (cs.set (a+1) len) a L 0)).map _)).map _=_;rw[store_ideal (i:=sl) rfl (by rw[storesC_len,List.length_set];exact hs)]
 simp[Tree.ideal,putC]
 omega
theorem Rep.put {cs:List Int}{s n:Nat}{t:Tab}{lo hi:Nat}(R:Rep cs s n t lo hi){key:List Int}{sl hi':Nat}(hsl:sl<n)(ht:t sl=none)(hlh:lo≤hi)(hh:hi'=hi+2+(packC key).length)(hs:hi'≤s)
  (hk:key.length≤100) (hb:∀x∈key,Byte x):Rep (putC cs hi (s+sl) key.length (packC key)) s n (t.put sl (key,hi)) lo hi':=by
 have hlen:=R.len;have hpos:=R.pos;have out:∀i,(i<hi+1∨hi'≤i)→i≠s+sl→(putC cs hi (s+sl) key.length (packC key))[i]? =cs[i]? :=by
  intro i h1 h2;unfold putC;rw[List.getElem?_set_ne (fun e=>h2 e.symm),storesC_out _ _ _ _ _ (by omega),List.getElem?_set_ne (by omega)]
 refine⟨by rw[putC_len];exact hlen,hs,hpos,?_,?_,?_,?_,?_⟩
 ·intro i hi0 e;have hne:i≠sl:=fun h=>by rw[h,Tab.put_self]at e;cases e
  rw[Tab.put_ne _ _ hne]at e;rw[out _ (Or.inr (by omega)) (by omega)];exact R.void i hi0 e
 ·intro i k a hi0 e
  by_cases h:i=sl
  ·subst h;rw[Tab.put_self]at e;injection e with e;injection e with _ e
   subst e;unfold putC;rw[List.getElem?_set_self (by rw[storesC_len,List.length_set];omega)]
  ·rw[Tab.put_ne _ _ h]at e;rw[out _ (Or.inr (by omega)) (by omega)];exact R.slot i k a hi0 e
 ·intro i k a hi0 e
  by_cases h:i=sl
  ·subst h;rw[Tab.put_self]at e;injection e with e;injection e with e1 e2
   subst e1 e2;exact⟨hlh,by omega,hk,hb⟩
  ·rw[Tab.put_ne _ _ h]at e;have:=R.lies i k a hi0 e;exact⟨this.1,by omega,this.2.2⟩
 ·intro i k a hi0 e
  by_cases h:i=sl
  ·subst h;rw[Tab.put_self]at e;injection e with e;injection e with e1 e2
   subst e1 e2;unfold putC;rw[List.getElem?_set_ne (by omega),storesC_out _ _ _ _ _ (by omega),List.getElem?_set_self (by omega)]
  ·rw[Tab.put_ne _ _ h]at e;have:=R.lies i k a hi0 e;rw[out _ (Or.inl (by omega)) (by omega)];exact R.size i k a hi0 e
 ·intro i k a hi0 e j c hj
  by_cases h:i=sl
  ·subst h;rw[Tab.put_self]at e;injection e with e;injection e with e1 e2
   subst e1 e2;unfold putC;have hjl:j<(packC key).length:=(List.getElem?_eq_some_iff.1 hj).1;rw[List.getElem?_set_ne (by omega)]
   have:=storesC_in hi (packC key) (cs.set (hi+1) key.length) 0 j c (by rw[List.length_set];omega) hj
   rw[Nat.add_zero]at this;exact this
  ·rw[Tab.put_ne _ _ h]at e;have:=R.lies i k a hi0 e;have hjl:j<(packC k).length:=(List.getElem?_eq_some_iff.1 hj).1;rw[out _ (Or.inl (by omega)) (by omega)];exact R.key i k a hi0 e j c hj
end Go.Proofs.YtogdknnkhkjmcaaGreatDoor
