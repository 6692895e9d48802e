/- Lemmas on the programs that the statement reaches. -/
import Derived.Test.YtogdknnkhkjmcaaGreatDoorKLwD
import Derived.Test.YtogdknnkhkjmcaaGreatDoorKLay
namespace Go.Proofs.YtogdknnkhkjmcaaGreatDoor
open Go.RowKit
set_option linter.all false
def cmpD (a:Int):List Int→Nat→Tree Bool
 | [],_=> .ret true
 |c::cs,k=> .load (a+2+k) fun x=>if x≠c then .ret false else .off fun o=>if o=true then .ret false else cmpD a cs (k+1)
def findD (s:Int)(n h:Nat)(cells:List Int)(len:Int):Nat→Nat→Tree (Int×Int)
 |0,_=> .ret (0,-1)
 |f+1,i=> .load (s+(((h+i)%n:Nat):Int)) fun a=> .off fun o=>if o=true then .ret (0,-1)else if a=0 then .ret (0,(((h+i)%n:Nat):Int))else
   .load (a+1) fun ln=>if ln≠len then findD s n h cells len f (i+1)else
    (cmpD a cells 0).bind fun ok=>if ok=true then .ret (a,(((h+i)%n:Nat):Int))else findD s n h cells len f (i+1)
def storesD (a:Int):List Int→Nat→Tree Unit
 | [],_=> .ret ()
 |c::cs,k=> .store (a+2+k) c (storesD a cs (k+1))
def putD (a sl len:Int)(cells:List Int):Tree Unit:= .store (a+1) len ((storesD a cells 0).bind fun _=> .store sl a (.ret ()))
abbrev Tab:Type:=Nat→Option (List Int×Nat)
def Tab.le (t t':Tab):Prop:=∀i e,t i=some e→t' i=some e
def Tab.put (t:Tab)(i:Nat)(e:List Int×Nat):Tab:=fun j=>if j=i then some e else t j
structure Rep (cs:List Int)(s n:Nat)(t:Tab)(lo hi:Nat):Prop where
 len:s+n≤cs.length
 book:hi≤s
 pos:1≤lo
 void:∀i,i<n→t i=none→cs[s+i]? =some 0
 slot:∀i k a,i<n→t i=some (k,a)→cs[s+i]? =some (a:Int)
 lies:∀i k a,i<n→t i=some (k,a)→lo≤a∧a+2+(packC k).length≤hi∧k.length≤100∧(∀x∈k,Byte x)
 size:∀i k a,i<n→t i=some (k,a)→cs[a+1]? =some (k.length:Int)
 key:∀i k a,i<n→t i=some (k,a)→∀(j:Nat) (c:Int),(packC k)[j]? =some c→cs[a+2+j]? =some c
def probe (t:Tab)(n h:Nat)(key:List Int):Nat→Nat→Int×Int
 |0,_=>(0,-1)
 |f+1,i=>match t ((h+i)%n)with
  |none=>(0,(((h+i)%n:Nat):Int))
  |some (k,a)=>if k=key then((a:Int),(((h+i)%n:Nat):Int))else probe t n h key f (i+1)
theorem probe_none {t:Tab}{n h f i:Nat}{key:List Int}(e:t ((h+i)%n)=none):probe t n h key (f+1) i=(0,(((h+i)%n:Nat):Int)):=by
 show(match t ((h+i)%n)with|none=>_|some (k,a)=>_)=_
 rw[e]
theorem probe_hit {t:Tab}{n h f i a:Nat}{key:List Int}(e:t ((h+i)%n)=some (key,a)):probe t n h key (f+1) i=((a:Int),(((h+i)%n:Nat):Int)):=by
 show(match t ((h+i)%n)with|none=>_|some (k,a)=>_)=_
 rw[e];simp
theorem probe_miss {t:Tab}{n h f i a:Nat}{key k:List Int}(e:t ((h+i)%n)=some (k,a))(hk:k≠key):probe t n h key (f+1) i=probe t n h key f (i+1):=by
 show(match t ((h+i)%n)with|none=>_|some (k,a)=>_)=_
 rw[e];simp[hk]
theorem getD_of {cs:List Int}{i:Nat}{x:Int}(h:cs[i]? =some x):i<cs.length∧cs.getD i 0=x:=by
 refine⟨(List.getElem?_eq_some_iff.1 h).1,?_⟩;rw[List.getD_eq_getElem?_getD,h];rfl
theorem load_ideal {α:Type}{k:Int→Tree α}{cs:List Int}{a:Int}{i:Nat}{x:Int}(ha:a=i)(h:cs[i]? =some x):
  (Tree.load a k).ideal cs=((k x).ideal cs).map fun y=>(y.1,y.2.1,y.2.2+1):=by
 obtain⟨h1,h2⟩:=getD_of h;subst ha;show(if 0≤(i:Int)∧(i:Int)<cs.length then _ else _)=_
 rw[if_pos ⟨by omega,by omega⟩,Int.toNat_natCast,h2]
theorem cmpD_ideal {cs:List Int}{a:Nat}:∀(L2 L1:List Int) (k:Nat),L1.length=L2.length→(∀(j:Nat) c,L1[j]? =some c→cs[a+2+k+j]? =some c)→
  ∃n,n≤L2.length∧(cmpD a L2 k).ideal cs=some (decide (L1=L2),cs,n)
 | [],L1,k,hl,_=>by
  have:L1=[]:=List.length_eq_zero_iff.1 hl;subst this;exact⟨0,Nat.le_refl _,rfl⟩
 |c::L2,[],k,hl,_=>by simp at hl
 |c::L2,d::L1,k,hl,h=>by
  have h0:=h 0 d rfl;have e:=load_ideal (k:=fun x=>if x≠c then Tree.ret false else .off fun o=>if o=true then .ret false else cmpD a L2 (k+1)) (a:=(a:Int)+2+k) (i:=a+2+k+0) (by omega) h0
  unfold cmpD;rw[e]
  by_cases hdc:d=c
  ·subst hdc;rw[if_neg (by simp)]
   obtain⟨n,hn,hi⟩:=cmpD_ideal L2 L1 (k+1) (by simpa using hl) (fun j c hj=>by
    have:=h (j+1) c (by simpa using hj)
    rw[←this,show a+2+(k+1)+j=a+2+k+(j+1) by omega])
   refine⟨n+1,by simp;omega,?_⟩
   show((cmpD (a:Int) L2 (k+1)).ideal cs).map _=_;rw[hi];simp
  ·rw[if_pos hdc];refine⟨1,by simp,?_⟩
   simp[Tree.ideal,hdc]
theorem findD_ideal {cs:List Int}{s n:Nat}{t:Tab}{lo hi:Nat}(R:Rep cs s n t lo hi)(hn:0<n)(h:Nat)(key:List Int)(hk:∀x∈key,Byte x):∀(f i:Nat),
  ∃cnt,cnt≤f*27∧(findD s n h (packC key) key.length f i).ideal cs=some (probe t n h key f i,cs,cnt)
 |0,i=>⟨0,by omega,rfl⟩
 |f+1,i=>by
  have hlt:(h+i)%n<n:=Nat.mod_lt _ hn;obtain⟨cnt,hc,hi'⟩:=findD_ideal R hn h key hk f (i+1)
  cases e:t ((h+i)%n)with
  |none=>
   refine⟨1,by omega,?_⟩
   rw[probe_none e];unfold findD;rw[load_ideal (i:=s+(h+i)%n) (by omega) (R.void _ hlt e)]
   rfl
  |some p=>
   obtain⟨k,a⟩:=p;obtain⟨r1,r2,r3,r4⟩:=R.lies _ _ _ hlt e;have hpos:=R.pos;unfold findD;rw[load_ideal (i:=s+(h+i)%n) (by omega) (R.slot _ _ _ hlt e)]
   have step2:(Tree.load ((a:Int)+1) fun ln=>if ln≠(key.length:Int)then findD s n h (packC key) key.length f (i+1)else
     (cmpD a (packC key) 0).bind fun ok=>if ok=true then .ret ((a:Int),(((h+i)%n:Nat):Int))else findD s n h (packC key) key.length f (i+1)).ideal cs=
     ((if(k.length:Int)≠(key.length:Int)then findD s n h (packC key) key.length f (i+1)else
     (cmpD a (packC key) 0).bind fun ok=>if ok=true then .ret ((a:Int),(((h+i)%n:Nat):Int))else findD s n h (packC key) key.length f (i+1)).ideal cs).map fun y=>(y.1,y.2.1,y.2.2+1):=
    load_ideal (i:=a+1) (by omega) (R.size _ _ _ hlt e)
   have hz:((a:Int)=0)=False:=by simp;omega
   have inner:∃c2,c2≤f*27+26∧(Tree.load ((a:Int)+1) fun ln=>if ln≠(key.length:Int)then findD s n h (packC key) key.length f (i+1)else
     (cmpD a (packC key) 0).bind fun ok=>if ok=true then .ret ((a:Int),(((h+i)%n:Nat):Int))else findD s n h (packC key) key.length f (i+1)).ideal cs=some (probe t n h key (f+1) i,cs,c2):=by
    rw[step2]
    by_cases hl:k.length=key.length
    ·rw[if_neg (by simp[hl])]
     have hpl:(packC k).length=(packC key).length:=by rw[packC_len,packC_len,hl]
     obtain⟨m,hm,hmi⟩:=cmpD_ideal (cs:=cs) (a:=a) (packC key) (packC k) 0 hpl (fun j c hj=>R.key _ _ _ hlt e j c hj);rw[Tree.ideal_bind,hmi];have hml:m≤25:=by rw[packC_len]at hm;omega
     exact c91
    ·rw[if_pos (by omega),hi',probe_miss e (fun e=>hl (by rw[e]))]
     exact⟨cnt+1,by omega,rfl⟩
   obtain⟨c2,h1,h2⟩:=inner;refine⟨c2+1,by omega,?_⟩
   have:((fun a:Int=>Tree.off fun o=>if o=true then .ret ((0:Int),(-1:Int))else if a=0 then .ret ((0:Int),(((h+i)%n:Nat):Int))else
    .load (a+1) fun ln=>if ln≠(key.length:Int)then findD s n h (packC key) key.length f (i+1)else
    (cmpD a (packC key) 0).bind fun ok=>if ok=true then .ret (a,(((h+i)%n:Nat):Int))else findD s n h (packC key) key.length f (i+1)) (a:Int)).ideal cs=some (probe t n h key (f+1) i,cs,c2):=by
    show(if false=true then _ else if(a:Int)=0 then _ else _:Tree (Int×Int)).ideal cs=_
    rw[if_neg (by decide),if_neg (by rw[hz];exact id)]
    exact h2
   rw[this];rfl
structure WF (t:Tab)(n:Nat)(hash:List Int→Nat):Prop where
 pos:∀i k a,i<n→t i=some (k,a)→0<a
 path:∀i k a,i<n→t i=some (k,a)→∃j,j<n∧(hash k+j)%n=i∧∀j',j'<j→∃k' a',t ((hash k+j')%n)=some (k',a')∧k'≠k
theorem probe_cases (t:Tab)(n h:Nat)(key:List Int):∀(f i:Nat),
  (∃j,i≤j∧j<i+f∧(∀j',i≤j'→j'<j→∃k a,t ((h+j')%n)=some (k,a)∧k≠key)∧
   ((t ((h+j)%n)=none∧probe t n h key f i=(0,(((h+j)%n:Nat):Int)))∨∃a:Nat,t ((h+j)%n)=some (key,a)∧probe t n h key f i=((a:Int),(((h+j)%n:Nat):Int))))∨
  ((∀j',i≤j'→j'<i+f→∃k a,t ((h+j')%n)=some (k,a)∧k≠key)∧probe t n h key f i=(0,-1))
 |0,i=>Or.inr ⟨fun j' h1 h2=>by omega,rfl⟩
 |f+1,i=>by
  cases e:t ((h+i)%n)with
  |none=>exact Or.inl ⟨i,Nat.le_refl _,by omega,fun j' h1 h2=>by omega,Or.inl ⟨e,probe_none e⟩⟩
  |some p=>
   obtain⟨k,a⟩:=p
   by_cases hk:k=key
   ·subst hk;exact Or.inl ⟨i,Nat.le_refl _,by omega,fun j' h1 h2=>by omega,Or.inr ⟨a,e,probe_hit e⟩⟩
   ·rw[probe_miss e hk]
    rcases probe_cases t n h key f (i+1)with⟨j,h1,h2,h3,h4⟩|⟨h1,h2⟩
    ·refine Or.inl ⟨j,by omega,by omega,fun j' g1 g2=>?_,h4⟩
     rcases Nat.eq_or_lt_of_le g1 with rfl|g
     ·exact⟨k,a,e,hk⟩
     ·exact h3 j' (by omega) g2
    ·refine Or.inr ⟨fun j' g1 g2=>?_,h2⟩
     rcases Nat.eq_or_lt_of_le g1 with rfl|g
     ·exact⟨k,a,e,hk⟩
     ·exact h1 j' (by omega) (by omega)
theorem probe_sound {t:Tab}{n h:Nat}{key:List Int}{f i:Nat}{x y:Int}(e:probe t n h key f i=(x,y))(hx:x≠0)(hn:0<n):∃j a:Nat,j<n∧t j=some (key,a)∧x=a∧y=j:=by
 rcases probe_cases t n h key f i with⟨j,_,_,_,⟨_,h5⟩|⟨a,h4,h5⟩⟩|⟨_,h2⟩
 ·rw[h5]at e;injection e with e1 _;exact absurd e1.symm hx
 ·rw[h5]at e;injection e with e1 e2
  exact⟨(h+j)%n,a,Nat.mod_lt _ hn,h4,e1.symm,e2.symm⟩
 ·rw[h2]at e;injection e with e1 _;exact absurd e1.symm hx
theorem probe_complete {t:Tab}{n:Nat}{hash:List Int→Nat}(W:WF t n hash){i:Nat}{k:List Int}{a:Nat}(hi:i<n)(e:t i=some (k,a)):probe t n (hash k) k n 0=((a:Int),(i:Int)):=by
 obtain⟨j,h1,h2,h3⟩:=W.path i k a hi e
 rcases probe_cases t n (hash k) k n 0 with⟨j1,g1,g2,g3,g4⟩|⟨g1,_⟩
 ·rcases Nat.lt_trichotomy j1 j with h|h|h
  ·obtain⟨k',a',p1,p2⟩:=h3 j1 h
   rcases g4 with⟨g5,_⟩|⟨a2,g5,_⟩
   ·rw[g5]at p1;cases p1
   ·rw[g5]at p1;injection p1 with p1;injection p1 with p1 _;exact absurd p1.symm p2
  ·subst h;rw[h2]at g4
   rcases g4 with⟨g5,_⟩|⟨a2,g5,g6⟩
   ·rw[g5]at e;cases e
   ·rw[g5]at e;injection e with e;injection e with _ e;subst e;exact g6
  ·obtain⟨k',a',p1,p2⟩:=g3 j (Nat.zero_le _) h;rw[h2,e]at p1;injection p1 with p1;injection p1 with p1 _;exact absurd p1.symm p2
 ·obtain⟨k',a',p1,p2⟩:=g1 j (Nat.zero_le _) (by omega)
  rw[h2,e]at p1;injection p1 with p1;injection p1 with p1 _;exact absurd p1.symm p2
theorem WF.empty (n:Nat)(hash:List Int→Nat):WF (fun _=>none) n hash:=⟨fun _ _ _ _ e=>(by cases e),fun _ _ _ _ e=>(by cases e)⟩
theorem Tab.put_le {t:Tab}{i:Nat}{e:List Int×Nat}(h:t i=none):t.le (t.put i e):=by
 intro j x hx;unfold Tab.put
 split
 ·rename_i hj;subst hj;rw[h]at hx;cases hx
 ·exact hx
theorem Tab.put_self (t:Tab)(i:Nat)(e:List Int×Nat):t.put i e i=some e:=by simp[Tab.put]
theorem Tab.put_ne (t:Tab){i j:Nat}(e:List Int×Nat)(h:j≠i):t.put i e j=t j:=by simp[Tab.put,h]
theorem WF.put {t:Tab}{n:Nat}{hash:List Int→Nat}(W:WF t n hash)(hn:0<n){key:List Int}{sl:Nat}(hp:probe t n (hash key) key n 0=(0,(sl:Int)))(a:Nat)(ha:0<a):
  sl<n∧t sl=none∧WF (t.put sl (key,a)) n hash:=by
 rcases probe_cases t n (hash key) key n 0 with⟨j,_,h2,h3,⟨h4,h5⟩|⟨a2,h4,h5⟩⟩|⟨_,h2⟩
 ·rw[hp]at h5;injection h5 with _ h5
  have hs:sl=(hash key+j)%n:=by omega
  rw[←hs]at h4;refine⟨by rw[hs];exact Nat.mod_lt _ hn,h4,⟨fun i k b hi e=>?_,fun i k b hi e=>?_⟩⟩
  ·by_cases his:i=sl
   ·subst his;rw[Tab.put_self]at e;injection e with e;injection e with e1 e2
    omega
   ·rw[Tab.put_ne _ _ his]at e;exact W.pos i k b hi e
  by_cases his:i=sl
  ·subst his;rw[Tab.put_self]at e;injection e with e;injection e with e1 e2
   subst e1 e2;refine⟨j,by omega,hs.symm,fun j' hj'=>?_⟩
   obtain⟨k',a',p1,p2⟩:=h3 j' (Nat.zero_le _) hj';exact⟨k',a',Tab.put_le h4 _ _ p1,p2⟩
  ·rw[Tab.put_ne _ _ his]at e;obtain⟨j0,g1,g2,g3⟩:=W.path i k b hi e;exact⟨j0,g1,g2,fun j' hj'=>by
    obtain⟨k',a',p1,p2⟩:=g3 j' hj';exact⟨k',a',Tab.put_le h4 _ _ p1,p2⟩⟩
 ·rw[hp]at h5;injection h5 with h5 h6
  have:=W.pos _ _ _ (Nat.mod_lt _ hn) h4
  omega
 ·rw[hp]at h2;injection h2 with _ h2
  omega
def storesC (cs:List Int)(a:Nat):List Int→Nat→List Int
 | [],_=>cs
 |c::L,k=>storesC (cs.set (a+2+k) c) a L (k+1)
def putC (cs:List Int)(a sl:Nat)(len:Int)(L:List Int):List Int:=(storesC (cs.set (a+1) len) a L 0).set sl (a:Int)
theorem storesC_len (a:Nat):∀(L:List Int) (cs:List Int) (k:Nat),(storesC cs a L k).length=cs.length
 | [],cs,k=>rfl
 |c::L,cs,k=>by
  show(storesC (cs.set (a+2+k) c) a L (k+1)).length=_;rw[storesC_len a L,List.length_set]
theorem putC_len (cs:List Int)(a sl:Nat)(len:Int)(L:List Int):(putC cs a sl len L).length=cs.length:=by
 unfold putC;rw[List.length_set,storesC_len,List.length_set]
theorem storesC_out (a:Nat):∀(L:List Int) (cs:List Int) (k i:Nat),i<a+2+k∨a+2+k+L.length≤i→(storesC cs a L k)[i]? =cs[i]?
 | [],cs,k,i,_=>rfl
 |c::L,cs,k,i,h=>by
  show(storesC (cs.set (a+2+k) c) a L (k+1))[i]? =_;rw[List.length_cons]at h;rw[storesC_out a L _ (k+1) i (by omega),List.getElem?_set_ne (by omega)]
theorem storesC_in (a:Nat):∀(L:List Int) (cs:List Int) (k j:Nat) (c:Int),a+2+k+L.length≤cs.length→L[j]? =some c→(storesC cs a L k)[a+2+k+j]? =some c
 | [],cs,k,j,c,_,h=>by simp at h
 |d::L,cs,k,0,c,hl,h=>by
  have h:d=c:=by simpa using h
  subst h;show(storesC (cs.set (a+2+k) d) a L (k+1))[a+2+k]? =_;rw[List.length_cons]at hl;rw[storesC_out a L _ (k+1) _ (by omega),List.getElem?_set_self (by omega)]
 |d::L,cs,k,j+1,c,hl,h=>by
  show(storesC (cs.set (a+2+k) d) a L (k+1))[a+2+k+(j+1)]? =_;have e:a+2+k+(j+1)=a+2+(k+1)+j:=by omega
  rw[List.length_cons]at hl;rw[e];exact storesC_in a L _ (k+1) j c (by rw[List.length_set];omega) (by simpa using h)
theorem store_ideal {α:Type}{k:Tree α}{cs:List Int}{a v:Int}{i:Nat}(ha:a=i)(h:i<cs.length):
  (Tree.store a v k).ideal cs=(k.ideal (cs.set i v)).map fun y=>(y.1,y.2.1,y.2.2+1):=by
 subst ha;show(if 0≤(i:Int)∧(i:Int)<cs.length then _ else _)=_
 rw[if_pos ⟨by omega,by omega⟩,Int.toNat_natCast]
theorem storesD_ideal (a:Nat):∀(L:List Int) (cs:List Int) (k:Nat),a+2+k+L.length≤cs.length→(storesD a L k).ideal cs=some ((),storesC cs a L k,L.length)
 | [],cs,k,_=>rfl
 |c::L,cs,k,h=>by
  rw[List.length_cons]at h;unfold storesD;rw[store_ideal (i:=a+2+k) (by omega) (by omega),storesD_ideal a L _ (k+1) (by rw[List.length_set];omega)]
  rfl
theorem putD_ideal {cs:List Int}{a sl:Nat}{len:Int}{L:List Int}(h:a+2+L.length≤cs.length)(hs:sl<cs.length):
  (putD a sl len L).ideal cs=some ((),putC cs a sl len L,L.length+2):=by
 unfold putD;rw[store_ideal (i:=a+1) (by omega) (by omega),Tree.ideal_bind,storesD_ideal a L _ 0 (by rw[List.length_set];omega)]
 show((((Tree.store (sl:Int) (a:Int) (.ret ())).ideal (storesC (cs.set (a+1) len) a L 0)).map _)).map _=_;rw[store_ideal (i:=sl) rfl (by rw[storesC_len,List.length_set];exact hs)]
 simp[Tree.ideal,putC]
 omega
theorem Rep.put {cs:List Int}{s n:Nat}{t:Tab}{lo hi:Nat}(R:Rep cs s n t lo hi){key:List Int}{sl hi':Nat}(hsl:sl<n)(ht:t sl=none)(hlh:lo≤hi)(hh:hi'=hi+2+(packC key).length)(hs:hi'≤s)
  (hk:key.length≤100) (hb:∀x∈key,Byte x):Rep (putC cs hi (s+sl) key.length (packC key)) s n (t.put sl (key,hi)) lo hi':=by
 have hlen:=R.len;have hpos:=R.pos;have out:∀i,(i<hi+1∨hi'≤i)→i≠s+sl→(putC cs hi (s+sl) key.length (packC key))[i]? =cs[i]? :=by
  intro i h1 h2;unfold putC;rw[List.getElem?_set_ne (fun e=>h2 e.symm),storesC_out _ _ _ _ _ (by omega),List.getElem?_set_ne (by omega)]
 refine⟨by rw[putC_len];exact hlen,hs,hpos,?_,?_,?_,?_,?_⟩
 ·intro i hi0 e;have hne:i≠sl:=fun h=>by rw[h,Tab.put_self]at e;cases e
  rw[Tab.put_ne _ _ hne]at e;rw[out _ (Or.inr (by omega)) (by omega)];exact R.void i hi0 e
 ·intro i k a hi0 e
  by_cases h:i=sl
  ·subst h;rw[Tab.put_self]at e;injection e with e;injection e with _ e
   subst e;unfold putC;rw[List.getElem?_set_self (by rw[storesC_len,List.length_set];omega)]
  ·rw[Tab.put_ne _ _ h]at e;rw[out _ (Or.inr (by omega)) (by omega)];exact R.slot i k a hi0 e
 ·intro i k a hi0 e
  by_cases h:i=sl
  ·subst h;rw[Tab.put_self]at e;injection e with e;injection e with e1 e2
   subst e1 e2;exact⟨hlh,by omega,hk,hb⟩
  ·rw[Tab.put_ne _ _ h]at e;have:=R.lies i k a hi0 e;exact⟨this.1,by omega,this.2.2⟩
 ·intro i k a hi0 e
  by_cases h:i=sl
  ·subst h;rw[Tab.put_self]at e;injection e with e;injection e with e1 e2
   subst e1 e2;unfold putC;rw[List.getElem?_set_ne (by omega),storesC_out _ _ _ _ _ (by omega),List.getElem?_set_self (by omega)]
  ·rw[Tab.put_ne _ _ h]at e;have:=R.lies i k a hi0 e;rw[out _ (Or.inl (by omega)) (by omega)];exact R.size i k a hi0 e
 ·intro i k a hi0 e j c hj
  by_cases h:i=sl
  ·subst h;rw[Tab.put_self]at e;injection e with e;injection e with e1 e2
   subst e1 e2;unfold putC;have hjl:j<(packC key).length:=(List.getElem?_eq_some_iff.1 hj).1;rw[List.getElem?_set_ne (by omega)]
   have:=storesC_in hi (packC key) (cs.set (hi+1) key.length) 0 j c (by rw[List.length_set];omega) hj
   rw[Nat.add_zero]at this;exact this
  ·rw[Tab.put_ne _ _ h]at e;have:=R.lies i k a hi0 e;have hjl:j<(packC k).length:=(List.getElem?_eq_some_iff.1 hj).1;rw[out _ (Or.inl (by omega)) (by omega)];exact R.key i k a hi0 e j c hj
theorem Tryz.sizeU:(Tryz.prog.info? 32).map (·.size)=some 1:=by kernel_rfl
set_option maxRecDepth 100000 in
set_option maxHeartbeats 400000 in
theorem mem_cells {w:World}{m c:Nat}{μ:MemS}(h:MemAt w m c μ):
  Z 20 #[.pointer (some ⟨m,0,none⟩)] w fun e w'=>
   e= .returned (.slice (some ⟨w.heap.size,0,none⟩) μ.cells.length μ.cells.length)∧Blk w' w.heap.size (μ.cells.map (Value.int .u32))∧Keeps (· <w.heap.size) w w':=by
 have hs:=h.small;have c0:=h.obj.cell 0;have c1:=h.obj.cell 1;have hlt:=h.obj.lt;simp only[List.getElem?_cons_zero,List.getElem?_cons_succ]at c0 c1;have hmk:=fun w=>run_make_row' (P:=Tryz.prog) 47 32 (J 0) 4 Tryz.underlying47 Tryz.infoU rfl .i64 .i64 μ.cells.length (by omega) (by omega) w
 have hb0:=made_blk w (J 0) μ.cells.length 32;have hcw:=h.cells.alloc (.cells (madeCells #[J 0] μ.cells.length) 32);have hhg:(w.alloc (.cells (madeCells #[J 0] μ.cells.length) 32)).heap[w.heap.size]? =some (.cells (List.replicate μ.cells.length (J 0)).toArray 32 (0,0)):=by
  have e:madeCells #[J 0] μ.cells.length=(List.replicate μ.cells.length (J 0)).toArray:=by
   apply Array.ext';rw[toList_madeCells_one]
  rw[e];exact heap_alloc_new w _
 have HG:=hid hhg;have HC:=hid hcw;have HN:=hid (show(μ.cells.map (Value.int .u32)).length=μ.cells.length from List.length_map ..)
 clear h hb0 hcw hhg;refine calls_hide fun R' hR'=>?_
 go_enter Tryz.func20,Tryz.ntmps20
 go_wp2_with (with_reducible refine wpList_copy_splice rfl (.tmp 12) (.tmp 16) 47 47 rfl 32 Tryz.underlying47 Tryz.sizeU _ _ _ _ _ _ rfl rfl w.heap.size 0 (List.replicate μ.cells.length (J 0)) 32 HG.out (μ.cells.map (Value.int .u32)) ?hn ?hpos ?hfit ?h1 w.heap.size w ?hb (Nat.le_refl _) ?_)
 case hn=>rw[HN.out];simp
 case hpos=>intro _ j x hj;rw[HC.out.cell,List.getElem?_map,hj];rfl
 case hfit=>simp
 case h1=>intro u hu;obtain⟨x,_,rfl⟩:=List.mem_map.1 hu;rfl
 case hb=>exact(Below.refl _ _).alloc (Nat.le_refl _) _
 exact c130
set_option maxRecDepth 100000 in
set_option maxHeartbeats 1000000 in
theorem same_any {w:World}{K:Nat→Prop}{xs ys:List Int}{va vb:Value}(ha:SlAt w K 1 va xs.length (xs.map (Value.int .u32)))(hb:SlAt w K 1 vb ys.length (ys.map (Value.int .u32))):
  Z 26 #[va,vb] w fun e w'=>e= .returned (.bool (decide (xs=ys)))∧∃n,w.drewN n=w':=by
 have HA:=hid ha;have HB:=hid hb;obtain⟨A,ca,rfl,h1,h2⟩:=ha.form;obtain⟨B,cb,rfl,h3,h4⟩:=hb.form;unfold maxLen at h2 h4;clear ha hb;refine calls_hide fun R' hR'=>?_
 by_cases hl:xs.length=ys.length
 ·have hbf:((xs.length:Int) !=(ys.length:Int))=false:=by simp[hl]
  have HL:=hid hl;clear hl
  go_enter Tryz.func26,Tryz.ntmps26
  go_wp2_with fail
  go_loopw[13] (fun i wr=>∃k n:Nat,i=I k∧k≤xs.length∧w.drewN n=wr∧xs.take k=ys.take k) (fun i _=>xs.length-(intOf i).toNat)
  case atStart=>exact⟨0,0,rfl,Nat.zero_le _,rfl,rfl⟩
  case round=>
   obtain⟨k,n,rfl,hk,hw,htk⟩:=hrel;have HT:=hid htk;have HW:=hid hw;clear htk hw
   by_cases hlt:k<xs.length
   ·obtain⟨b1,o1,c1,e1,_,x1⟩:=HA.out.get k xs[k] (List.getElem?_eq_getElem hlt);obtain⟨b2,o2,c2,e2,_,x2⟩:=HB.out.get k (ys[k]'(by have:=HL.out;omega)) (List.getElem?_eq_getElem _)
    injection e1 with e1 _ e1'
    injection e2 with e2 _ e2'
    subst e1 e1' e2 e2';have y1:wr.cell? ⟨b1,o1+k,none⟩=some (J xs[k]):=by rw[←HW.out];exact x1
    have y2:wr.cell? ⟨b2,o2+k,none⟩=some (J (ys[k]'(by have:=HL.out;omega))):=by rw[←HW.out];exact x2
    have hlt2:k<ys.length:=by have:=HL.out;omega
    have i1:(k:Int)<(xs.length:Int):=by omega
    have i2:(k:Int)<(ys.length:Int):=by omega
    generalize hx:xs[k]=x at*;generalize hy:ys[k]=y at*;have HX:=hid hx;have HY:=hid hy;clear hx hy x1 x2
    by_cases hxy:x=y
    ·have hb:(x !=y)=false:=by simp[hxy]
     have HXY:=hid hxy;clear hxy
     go_wp2_with fail
     go_quiet (fail)
     go_wp2_with fail
     go_roundw
     case rel=>exact⟨k+1,n+nq,by go_num,by omega,by rw[←HW.out];simp[World.drewN,Nat.add_assoc],by
      rw[List.take_succ_eq_append_getElem hlt,List.take_succ_eq_append_getElem hlt2,HT.out,HX.out,HY.out,HXY.out]⟩
     case measure=>simp[intOf];omega
    ·have hb:(x !=y)=true:=by simp[hxy]
     have HXY:=hid hxy;clear hxy
     go_wp2_with fail
     go_quiet (fail)
     go_wp2_with fail
     refine hR'.out _ _ ⟨?_,n+nq,by rw[←HW.out];simp[World.drewN,Nat.add_assoc]⟩
     have:xs≠ys:=fun e=>HXY.out (by rw[←HX.out,←HY.out];simp[e])
     simp[this]
   ·have hkl:k=xs.length:=by omega
    subst hkl
    go_wp2_with fail
    refine hR'.out _ _ ⟨?_,n,HW.out⟩;have:xs=ys:=by have:=HT.out;rw[List.take_length,HL.out,List.take_length]at this;exact this
    simp[this]
 ·have hbf:((xs.length:Int) !=(ys.length:Int))=true:=by simp;omega
  have HL:=hid hl;clear hl
  go_enter Tryz.func26,Tryz.ntmps26
  go_wp2_with fail
  refine hR'.out _ _ ⟨?_,0,rfl⟩;have:xs≠ys:=fun e=>HL.out (by rw[e])
  simp[this]
def homeD (n:Nat)(l:List Int):Nat:=(hashL l).toNat%n
section
variable {s0:Int}{n h f i:Nat}{C:List Int}{len:Int}{s s1 s2:St}{x y:Int}
theorem findD_off (e:s.load (s0+(((h+i)%n:Nat):Int))=(x,s1))(ho:s1.isOff=true):(findD s0 n h C len (f+1) i).exec s=((0,-1),s1):=by
 show(if(s.load (s0+(((h+i)%n:Nat):Int))).2.isOff=true then Tree.ret (0,-1)else _:Tree (Int×Int)).exec (s.load (s0+(((h+i)%n:Nat):Int))).2=_
 rw[e,if_pos ho];rfl
theorem findD_zero (e:s.load (s0+(((h+i)%n:Nat):Int))=(0,s1))(ho:s1.isOff=false):(findD s0 n h C len (f+1) i).exec s=((0,(((h+i)%n:Nat):Int)),s1):=by
 have zz56:=PLift.up @c326;exact c325
def contD (s0:Int)(n h:Nat)(C:List Int)(len:Int)(f i:Nat)(x:Int)(ok:Bool):Tree (Int×Int):=if ok=true then .ret (x,(((h+i)%n:Nat):Int))else findD s0 n h C len f (i+1)
theorem findD_len (e:s.load (s0+(((h+i)%n:Nat):Int))=(x,s1))(ho:s1.isOff=false)(hx:x≠0)(e2:s1.load (x+1)=(y,s2))(hy:y≠len):
  (findD s0 n h C len (f+1) i).exec s=(findD s0 n h C len f (i+1)).exec s2:=by
 have zz56:=PLift.up @c327;exact c325
theorem findD_cmp (e:s.load (s0+(((h+i)%n:Nat):Int))=(x,s1))(ho:s1.isOff=false)(hx:x≠0)(e2:s1.load (x+1)=(len,s2)):
  (findD s0 n h C len (f+1) i).exec s=((cmpD x C 0).bind (contD s0 n h C len f i x)).exec s2:=by
 have zz56:=PLift.up @c328;exact c325
theorem cmpD_no {a c:Int}{L:List Int}{k:Nat}{F:Bool→Tree (Int×Int)}(e:s.load (a+2+k)=(x,s1))(hx:x≠c):((cmpD a (c::L) k).bind F).exec s=(F false).exec s1:=by
 show((if(s.load (a+2+k)).1≠c then Tree.ret false else _).bind F).exec (s.load (a+2+k)).2=_
 rw[e,if_pos hx];rfl
theorem cmpD_halt {a c:Int}{L:List Int}{k:Nat}{F:Bool→Tree (Int×Int)}(e:s.load (a+2+k)=(c,s1))(ho:s1.isOff=true):((cmpD a (c::L) k).bind F).exec s=(F false).exec s1:=by
 show((if(s.load (a+2+k)).1≠c then Tree.ret false else .off fun o=>if o=true then .ret false else cmpD a L (k+1)).bind F).exec (s.load (a+2+k)).2=_
 rw[e,if_neg (by simp)]
 show((if s1.isOff=true then Tree.ret false else cmpD a L (k+1)).bind F).exec s1=_
 rw[if_pos ho];rfl
theorem cmpD_yes {a c:Int}{L:List Int}{k:Nat}{F:Bool→Tree (Int×Int)}(e:s.load (a+2+k)=(c,s1))(ho:s1.isOff=false):((cmpD a (c::L) k).bind F).exec s=((cmpD a L (k+1)).bind F).exec s1:=by
 show((if(s.load (a+2+k)).1≠c then Tree.ret false else .off fun o=>if o=true then .ret false else cmpD a L (k+1)).bind F).exec (s.load (a+2+k)).2=_
 rw[e,if_neg (by simp)]
 show((if s1.isOff=true then Tree.ret false else cmpD a L (k+1)).bind F).exec s1=_
 rw[if_neg (by rw[ho];decide)]
end
set_option maxRecDepth 100000 in
set_option maxHeartbeats 2000000 in
theorem dict_find {w:World}{K:Nat→Prop}{r m c:Nat}{s:St}(h:RM w K r m c s)(s0:Int)(n:Nat)(t:ByteArray)(hs:0≤s0∧s0≤65536)(hn:1≤n∧n≤65536)(ht:t.size≤140737488351232):
  Z 75 #[.pointer (some ⟨r,0,none⟩),I s0,I n,.string t] w fun e w'=>
   e= .returned (.tuple #[I ((findD s0 n (homeD n (bsL t)) (packC (bsL t)) t.size n 0).exec s).1.1,I ((findD s0 n (homeD n (bsL t)) (packC (bsL t)) t.size n 0).exec s).1.2])∧
    RM w' K r m c ((findD s0 n (homeD n (bsL t)) (packC (bsL t)) t.size n 0).exec s).2∧Keeps K w w':=by
 obtain⟨s00,s01⟩:=hs;obtain⟨n0,n1⟩:=hn;have hhr:=hash_range (bsL t);have hpl:(packC (bsL t)).length=(t.size+3)/4:=by rw[packC_len,bsL_len]
 have hpr:=packC_range (l:=bsL t) (fun x hx=>bsL_range t x hx);have hhome:homeD n (bsL t)<n:=Nat.mod_lt _ (by omega)
 have hhe:hashL (bsL t)%(n:Int)=(homeD n (bsL t):Int):=by unfold homeD;rw[Int.natCast_emod,Int.toNat_of_nonneg hhr.1]
 generalize homeD n (bsL t)=ho at*;generalize hres:(findD s0 n ho (packC (bsL t)) t.size n 0).exec s=res;generalize hC:packC (bsL t)=C at*;have H:=hid h;have Hres:=hid hres;have Hpl:=hid hpl;have Hpr:=hid hpr;have Hhe:=hid hhe;have HC:=hid hC;clear h hres hpl hpr hhe hC;refine calls_hide fun R' hR'=>?_
 go_enter Tryz.func75,Tryz.ntmps75
 go_wp2_with fail
 go_step3
 go_wp2_with fail
 refine(pack_cells t ht w).mono ?_;rintro e w1 ⟨rfl,hB1,hk1⟩;have hK1:=H.out.moreB hk1;have hz1:=hk1.size;have HK1:=hid hK1;clear hK1
 go_wp2_with fail
 refine(pack_hash t ht _).mono ?_;rintro e w2 ⟨rfl,rfl⟩
 go_wp2_with fail
 have hww:wrap64 (hashL (bsL t)%(n:Int))=(ho:Int):=by rw[Hhe.out];unfold wrap64;omega
 rw[hww];clear hww hhr;generalize hK1d:(fun b=>K b∨(w.heap.size≤b∧b<w1.heap.size))=K1 at*;have hKK:∀b,K b→K1 b:=by intro b hb;rw[←hK1d];exact Or.inl hb
 have hb1K:K1 w.heap.size:=by rw[←hK1d];exact Or.inr ⟨Nat.le_refl _,hB1.lt⟩
 have hkw:Keeps K w w1:=hk1.mono H.out.lt;generalize w.heap.size=b1 at*;have HK1d:=hid hK1d;have HKK:=hid hKK;have Hb1K:=hid hb1K;have Hkw:=hid hkw;have HB1:=hid hB1;have Hz1:=hid hz1;clear hK1d hKK hb1K hkw hB1 hz1;clear hk1
 go_step3
 go_wp2_with fail
 go_loopw[29] (fun i wr=>∃(k:Nat) (s':St),i=I k∧k≤n∧RM wr K1 r m c s'∧Keeps K1 w1 wr∧(findD s0 n ho C t.size (n-k) k).exec s'=res) (fun i _=>n-(intOf i).toNat)
 case atStart=>exact⟨0,s,rfl,Nat.zero_le _,HK1.out,Keeps.refl _ _,Hres.out⟩
 case round=>
  obtain⟨k,s',rfl,hk,hR,hK,hex⟩:=hrel;have HR:=hid hR;have HK:=hid hK;clear hR hK
  by_cases hlt:k<n
  ·have e:n-k=(n-(k+1))+1:=by omega
   rw[e]at hex;have zz64:=PLift.up @c364;exact c363
  ·have hkn:n-k=0:=by omega
   rw[hkn]at hex;have hfin:((0,-1),s')=res:=hex;clear hex;have Hfin:=hid hfin;have Hkn:=hid hkn;clear hfin hkn
   go_wp2_with fail
   refine hR'.out _ _ ⟨by rw[←Hfin.out];rfl,by rw[←Hfin.out];exact HR.out.mono HKK.out,Hkw.out.trans (HK.out.mono HKK.out)⟩
set_option maxHeartbeats 400000 in
theorem dict_tail {w:World}{K:Nat→Prop}{r m c:Nat}{s:St}(h:RM w K r m c s)(a:Int):
  Z 76 #[.pointer (some ⟨r,0,none⟩),I a] w fun e w'=>e= .returned (I (s.load a).1)∧RM w' K r m c (s.load a).2∧Keeps K w w':=by
 have hu:=h.load_u32 a;have H:=hid h;clear h;refine calls_hide fun R' hR'=>?_
 go_enter Tryz.func76,Tryz.ntmps76
 go_wp2_with fail
 refine(step_load H.out a).mono ?_;rintro e w1 ⟨rfl,hr1,hk1⟩;obtain⟨u0,u1⟩:=hu;have Hr1:=hid hr1;have Hk1:=hid hk1;clear hr1 hk1;generalize hls:s.load a=ls at*;have Hls:=hid hls;clear hls
 go_wp2_with fail
 exact hR'.out _ _ ⟨rfl,Hr1.out,Hk1.out⟩
set_option maxHeartbeats 400000 in
theorem dict_setTail {w:World}{K:Nat→Prop}{r m c:Nat}{s:St}(h:RM w K r m c s)(a v:Int)(hv:U32 v):
  Z 84 #[.pointer (some ⟨r,0,none⟩),I a,I v] w fun e w'=>e= .returned (.tuple #[])∧RM w' K r m c (s.store a v)∧Keeps K w w':=by
 obtain⟨v0,v1⟩:=hv;have H:=hid h;clear h;refine calls_hide fun R' hR'=>?_
 go_enter Tryz.func84,Tryz.ntmps84
 go_wp2_with fail
 refine(step_store H.out a v ⟨v0,v1⟩).mono ?_;rintro e w1 ⟨rfl,hr1,hk1⟩;have Hr1:=hid hr1;have Hk1:=hid hk1;clear hr1 hk1
 go_wp2_with fail
 go_end0
 exact hR'.out _ _ ⟨rfl,Hr1.out,Hk1.out⟩
set_option maxRecDepth 100000 in
set_option maxHeartbeats 2000000 in
theorem dict_put_full {w:World}{K:Nat→Prop}{r m c:Nat}{s:St}(h:RM w K r m c s)(p:PlanM)(u:V6)(s0 sl:Int)(t:ByteArray)(ht:t.size≤1000)
  (h0:0≤u.a4) (hu:u.a4≤p.size.a4) (h2:p.size.a4<u.a4+(2+((t.size+3)/4:Nat))) (h3:p.size.a4≤65536):
  Z 81 #[.pointer (some ⟨r,0,none⟩),p.val,u.val,I s0,I sl,.string t] w fun e w'=>
   e= .returned (.tuple #[I 0,V6.val ⟨0,0,0,0,0,0⟩,I 3])∧RM w' K r m c s∧Keeps K w w':=by
 have H:=hid h;clear h;have hP:=hid (take_full p u (2+((t.size+3)/4:Nat)));have zz18:=PLift.up @c200;exact c199
set_option maxRecDepth 100000 in
set_option maxHeartbeats 4000000 in
theorem dict_put {w:World}{K:Nat→Prop}{r m c:Nat}{s:St}(h:RM w K r m c s)(p:PlanM)(u:V6)(s0 sl:Int)(t:ByteArray)(ht:t.size≤1000)
  (h0:0≤u.a4) (h2:u.a4+(2+((t.size+3)/4:Nat))≤p.size.a4) (h3:p.size.a4≤65536) (hpb:0≤p.base.a4∧p.base.a4≤65536) (hs0:0≤s0∧s0≤65536) (hsl: -1≤sl∧sl≤65536):
  Z 81 #[.pointer (some ⟨r,0,none⟩),p.val,u.val,I s0,I sl,.string t] w fun e w'=>
   e= .returned (.tuple #[I (p.base.a4+u.a4),V6.val { u with a4:=u.a4+(2+((t.size+3)/4:Nat)) },I 0])∧
    RM w' K r m c ((putD (p.base.a4+u.a4) (s0+sl) t.size (packC (bsL t))).exec s).2∧Keeps K w w':=by
 obtain⟨b0,b1⟩:=hpb;obtain⟨s00,s01⟩:=hs0;obtain⟨l00,l01⟩:=hsl;have hpl:(packC (bsL t)).length=(t.size+3)/4:=by rw[packC_len,bsL_len]
 have hpr:=packC_range (l:=bsL t) (fun x hx=>bsL_range t x hx);generalize hC:packC (bsL t)=C at*;generalize hres:(putD (p.base.a4+u.a4) (s0+sl) t.size C).exec s=res;have H:=hid h;have Hpl:=hid hpl;have Hpr:=hid hpr;have HC:=hid hC;have Hres:=hid hres;clear h hpl hpr hC hres;have zz18:=PLift.up @c201;exact c199
theorem decode_bound (s:ByteArray)(p:Nat):(Utf8.decode s p).1≤1114111:=by
 simp only[Utf8.decode]
 repeat' split
 all_goals try simp only[Bool.and_eq_true,Utf8.valid,Bool.or_eq_true,decide_eq_true_eq]at*
 all_goals try(show(65533:Nat)≤1114111;omega)
 all_goals omega
theorem runesF_bound (s:ByteArray):∀f p,∀r∈runesF s f p,0≤r∧r≤1114111
 |0,_,r,h=>by cases h
 |f+1,p,r,h=>by
  unfold runesF at h
  split at h
  ·rcases List.mem_cons.1 h with rfl|h
   ·have:=decode_bound s p;omega
   ·exact runesF_bound s f _ r h
  ·cases h
def isW (r:Int):Bool:= !(classM r==0)
def termP (ws:List Int):ByteArray:=fitS 16 (runesS (textS (ws.map foldM)))
def wordsL:Nat→Nat→List Int→List (ByteArray×Nat)
 |0,_,_=>[]
 |_+1,_,[]=>[]
 |f+1,p,r::rs=>if isW r then(if stopP (termP (r::rs.takeWhile isW))then wordsL f (p+1) ((rs.dropWhile isW).drop 1)else(termP (r::rs.takeWhile isW),p)::wordsL f (p+1) ((rs.dropWhile isW).drop 1))else wordsL f p rs
def wordsR (p:Nat)(rs:List Int):List (ByteArray×Nat):=wordsL rs.length p rs
theorem dw_len (rs:List Int):((rs.dropWhile isW).drop 1).length≤rs.length:=by
 have:(rs.dropWhile isW).length≤rs.length:=(List.dropWhile_sublist isW).length_le;rw[List.length_drop];omega
theorem wordsL_more:∀(f p:Nat) (rs:List Int),rs.length≤f→wordsL (f+1) p rs=wordsL f p rs
 |0,p,rs,h=>by
  have:rs=[]:=List.eq_nil_of_length_eq_zero (by omega)
  subst this;rfl
 |f+1,p,[],_=>rfl
 |f+1,p,r::rs,h=>by
  rw[List.length_cons]at h;have hd:=dw_len rs;unfold wordsL;rw[wordsL_more f (p+1) _ (by omega),wordsL_more f p rs (by omega)]
theorem wordsL_any (f p:Nat)(rs:List Int)(h:rs.length≤f):wordsL f p rs=wordsR p rs:=by
 obtain⟨g,rfl⟩:∃g,f=rs.length+g:=⟨f-rs.length,by omega⟩
 clear h
 induction g with
 |zero=>rfl
 |succ g ih=>rw[←Nat.add_assoc,wordsL_more _ _ _ (by omega)];exact ih
theorem wordsR_nil (p:Nat):wordsR p []=[]:=rfl
theorem wordsR_cons (p:Nat)(r:Int)(rs:List Int):wordsR p (r::rs)=if isW r then(if stopP (termP (r::rs.takeWhile isW))then wordsR (p+1) ((rs.dropWhile isW).drop 1)else(termP (r::rs.takeWhile isW),p)::wordsR (p+1) ((rs.dropWhile isW).drop 1))else wordsR p rs:=by
 have hd:=dw_len rs;show wordsL (rs.length+1) p (r::rs)=_;unfold wordsL;rw[wordsL_any _ (p+1) _ hd]
 rfl
structure WdAt (rs:List Int)(i j:Nat)(wd:List Int):Prop where
 eq:wd=((rs.drop i).take (j-i)).map foldM
 tw:(rs.drop i).takeWhile isW=(rs.drop i).take (j-i)++(rs.drop j).takeWhile isW
 dw:(rs.drop i).dropWhile isW=(rs.drop j).dropWhile isW
theorem WdAt.start (rs:List Int)(i:Nat):WdAt rs i i []:=⟨by simp,by simp,rfl⟩
theorem WdAt.step {rs:List Int}{i j:Nat}{wd:List Int}(h:WdAt rs i j wd){r:Int}(hr:rs[j]? =some r)(hw:isW r=true)(hij:i≤j):WdAt rs i (j+1) (wd++[foldM r]):=by
 have hd:rs.drop j=r::rs.drop (j+1):=by
  exact c131
 have ht:(rs.drop i).take (j+1-i)=(rs.drop i).take (j-i)++[r]:=by
  rw[show j+1-i=(j-i)+1 by omega,List.take_add_one,List.getElem?_drop,show i+(j-i)=j by omega,hr];rfl
 have htw:=h.tw;have hdw:=h.dw;rw[hd,List.takeWhile_cons_of_pos hw]at htw;rw[hd,List.dropWhile_cons_of_pos hw]at hdw;exact⟨by rw[ht,h.eq,List.map_append];rfl,by rw[ht,htw,List.append_assoc];rfl,hdw⟩
theorem WdAt.stop {rs:List Int}{i j:Nat}{wd:List Int}(h:WdAt rs i j wd)(hs:∀r,rs[j]? =some r→isW r=false):wd=((rs.drop i).takeWhile isW).map foldM∧((rs.drop i).dropWhile isW).drop 1=rs.drop (j+1):=by
 by_cases hj:j<rs.length
 ·have hr:=List.getElem?_eq_getElem hj;have hd:rs.drop j=rs[j]::rs.drop (j+1):=List.drop_eq_getElem_cons hj;have hw:=hs _ hr;have htw:=h.tw;have hdw:=h.dw;rw[hd,List.takeWhile_cons_of_neg (by rw[hw];decide),List.append_nil]at htw
  rw[hd,List.dropWhile_cons_of_neg (by rw[hw];decide)]at hdw
  exact⟨by rw[htw];exact h.eq,by rw[hdw];rfl⟩
 ·have hd:rs.drop j=[]:=List.drop_eq_nil_of_le (by omega)
  have htw:=h.tw;have hdw:=h.dw;rw[hd]at htw hdw;rw[List.takeWhile_nil,List.append_nil]at htw;exact⟨by rw[htw];exact h.eq,by rw[hdw,List.drop_eq_nil_of_le (by omega:rs.length≤j+1)];rfl⟩
theorem wordsR_word {p:Nat}{D rest:List Int}{r:Int}(hD:D=r::rest)(hw:isW r=true):wordsR p D=if stopP (termP (D.takeWhile isW))then wordsR (p+1) ((D.dropWhile isW).drop 1)else(termP (D.takeWhile isW),p)::wordsR (p+1) ((D.dropWhile isW).drop 1):=by
 subst hD;rw[wordsR_cons,if_pos hw,List.takeWhile_cons_of_pos hw,List.dropWhile_cons_of_pos hw]
def tokC (t:ByteArray×Nat):List Value:=[.int .u8 0,.string t.1,.int .i64 (t.2:Int)]
def TokRow (w0 w:World)(v:Value)(ts:List (ByteArray×Nat)):Prop:=w.ownsRow w0.heap.size 128 3 v ts.length (ts.flatMap tokC)∧Keeps (· <w0.heap.size) w0 w
theorem Tryz.infoTok:(Tryz.prog.info? 128).map (fun i=>(i.zero,i.size,i.bytes))=some (some (.agg #[.int .u8 0,.string ⟨#[]⟩,I 0]),3,32):=by kernel_rfl
theorem TokRow.calls {w0 w w':World}{v:Value}{ts:List (ByteArray×Nat)}(h:TokRow w0 w v ts)(k:Keeps (· <w.heap.size) w w'):TokRow w0 w' v ts:=
 ⟨ownB_keepS h.1 k,h.2.trans (k.mono fun b hb=>Nat.lt_of_lt_of_le hb h.2.size)⟩
theorem TokRow.push {w0 wr w':World}{T:TypeId}{v v':Value}{acc:List (ByteArray×Nat)}{x:ByteArray×Nat}(h:TokRow w0 wr v acc)(hown:w'.ownsRow w0.heap.size 128 3 v' (acc.length+1) (acc.flatMap tokC++tokC x))(hg:(wr.alloc (.cells (tokC x).toArray T)).grownBy w' v.ownBlock):TokRow w0 w' v' (acc++[x]):=by
 refine⟨by rw[List.flatMap_append,List.length_append];simpa using hown,?_⟩
 have hB:=h.2.size;exact keeps_grown (h.2.alloc (fun b hb=>by omega) _) (by simp;omega) (ownB_keepS h.1 ((Keeps.refl _ _).alloc (fun b hb=>hb) _)) hg
theorem own_back {w:World}{B B':Nat}{E:TypeId}{n sz:Nat}{v:Value}{xs:List Value}(h:w.ownsRow B E sz v n xs)(hB:B'≤B):w.ownsRow B' E sz v n xs:=by
 refine⟨h.1,?_⟩
 rcases h.2 with h1|⟨g,c,cur,h1,h2,h3⟩
 ·exact Or.inl h1
 ·exact Or.inr ⟨g,c,cur,h1,by omega,h3⟩
theorem TokRow.back {w0 w1 w:World}{v:Value}{ts:List (ByteArray×Nat)}(h:TokRow w1 w v ts)(k:Keeps (· <w0.heap.size) w0 w1):TokRow w0 w v ts:=by
 have:=k.size;exact⟨own_back h.1 this,k.trans (h.2.mono fun b hb=>by omega)⟩
theorem oneTok (x:ByteArray×Nat):∀u∈tokC x,u.oneCell'=true:=by
 intro u hu;simp only[tokC,List.mem_cons,List.not_mem_nil,or_false]at hu
 rcases hu with rfl|rfl|rfl<;>rfl
set_option maxRecDepth 100000 in
set_option maxHeartbeats 4000000 in
theorem token_words (s:ByteArray)(hs:s.size≤1000000)(w:World)(hT:FoldTab w):
  Z 73 #[.string s] w fun e w'=>∃v,e= .returned v∧TokRow w w' v (wordsR 0 (runesS s)):=by
 have HT:=hid hT;clear hT;refine calls_hide fun R' hR'=>?_
 go_enter Tryz.func73,Tryz.ntmps73
 go_wp2_with fail
 go_step3
 go_wp2_with fail
 refine(utf_runes s (by omega) w).mono ?_
 rintro e w1 ⟨v,rfl,hN⟩;have hrl:(runesS s).length≤s.size:=runesF_len s s.size 0;have hrb:∀r∈runesS s,0≤r∧r≤1114111:=runesF_bound s s.size 0;generalize runesS s=rs at*;obtain⟨A0,c0,rfl⟩:=ownB_form hN.1;have hS:=ownB_slAt hN.1;have hT1:=HT.out.keep hN.2;have hw1:=hN.2.size;have HS:=hid hS;have HT1:=hid hT1;have Hrb:=hid hrb;clear hS hT1 hrb;have HK0:=hid hN.2
 clear hN HT
 go_wp2_with fail
 go_step3
 go_wp2_with fail
 go_loopw[4,5,6] (fun ov pv iv wr=>∃(i place:Nat) (acc:List (ByteArray×Nat)) (A:Option Addr) (cp:Nat),ov= .slice A acc.length cp∧pv=I (place:Int)∧iv=I (i:Int)∧i≤rs.length+1∧place≤i∧acc.length≤i∧Hid (TokRow w1 wr (.slice A acc.length cp) acc)∧Hid (acc++wordsR place (rs.drop i)=wordsR 0 rs)) (fun _ _ iv _=>rs.length+2-(intOf iv).toNat)
 case atStart=>exact⟨0,0,[],none,0,rfl,rfl,rfl,Nat.zero_le _,Nat.le_refl _,Nat.le_refl _,hid ⟨⟨rfl,Or.inl ⟨rfl,rfl⟩⟩,Keeps.refl _ _⟩,hid rfl⟩
 case round=>
  obtain⟨i,place,acc,A,cp,rfl,rfl,rfl,hi,hpi,hai,HR,HE⟩:=hrel
  by_cases hlt:i<rs.length
  ·have hltI:(i:Int)<(rs.length:Int):=by omega
   obtain⟨r,hr⟩:∃r,rs[i]? =some r:=⟨_,List.getElem?_eq_getElem hlt⟩;have hrr:=Hrb.out r (List.mem_of_getElem? hr);obtain⟨b,off,c9,hv,hb,hc⟩:=(HS.out.keep HR.out.2 (fun b hb=>hb.2)).get i r hr;injection hv with hA h2 h3
   subst hA h3;have hd:rs.drop i=r::rs.drop (i+1):=by
    exact c131
   have hex:=HE.out;have hTr:=HT1.out.keep HR.out.2
   by_cases hcl:classM r=0
   ·have hw:isW r=false:=by unfold isW;simp[hcl]
    rw[hd,wordsR_cons,hw,if_neg (by simp)]at hex
    have hcb:(classM r==0)=true:=by simp[hcl]
    have zz55:=PLift.up @c323;exact c322
   ·have hw:isW r=true:=by unfold isW;simp[hcl]
    rw[wordsR_word hd hw]at hex;have hcb:(classM r==0)=false:=by simpa using hcl
    have zz55:=PLift.up @c324;exact c322
  ·have hex:=HE.out;rw[List.drop_eq_nil_of_le (by omega),wordsR_nil,List.append_nil]at hex
   have Hex:=hid hex;clear hex
   go_wp2_with fail
   exact hR'.out _ _ ⟨_,rfl,by have:=HR.out.back HK0.out;rw[←Hex.out];exact this⟩
theorem atP_dec (s:ByteArray)(i:Nat):(atP s i=(0,0)∧Utf8.decode s i=(65533,1))∨((atP s i).2≠0∧atP s i=(((Utf8.decode s i).1:Int),((Utf8.decode s i).2:Int))):=by
 obtain⟨b0,b1,b2,b3,e0,e1,e2,e3,hd⟩:=decN s i;unfold atP
 by_cases h1:byteI s i<128
 ·rw[if_pos h1];refine Or.inr ⟨by show(1:Int)≠0;decide,?_⟩
  rw[hd];unfold Lib.decodeN;rw[if_pos (by omega),e0];rfl
 rw[if_neg h1]
 by_cases h2:(Utf8.decode s i).2=1
 ·rw[if_pos h2];refine Or.inl ⟨rfl,?_⟩;rw[hd]at h2 ⊢;unfold Lib.decodeN at h2 ⊢;rw[if_neg (by omega)]at h2 ⊢
  repeat' split at h2
  all_goals first|(exfalso;simp at h2;done)|skip
  all_goals(repeat' split)
  all_goals first|rfl|(exfalso;omega)
 ·rw[if_neg h2];have:=decode_pos s i;exact Or.inr ⟨by show((Utf8.decode s i).2:Int)≠0;omega,rfl⟩
theorem decode_le (s:ByteArray)(i:Nat)(h:i<s.size):i+(Utf8.decode s i).2≤s.size:=by
 rw[Lib.decode_at];unfold Lib.decodeN
 repeat' split
 all_goals(simp only;omega)
theorem Tryz.infoI32':(Tryz.prog.info? 21).map (fun i=>(i.zero,i.size,i.bytes))=some (some (.int .i32 0),1,4):=by kernel_rfl
theorem Tryz.infoU8':(Tryz.prog.info? 5).map (fun i=>(i.zero,i.size,i.bytes))=some (some (.int .u8 0),1,1):=by kernel_rfl
set_option maxRecDepth 100000 in
set_option maxHeartbeats 4000000 in
theorem ref4_runes (s:ByteArray)(hs:s.size≤17592186044416)(w:World):Z 110 #[.string s] w fun e w'=>∃v,e= .returned v∧NewRow w w' 21 (Value.int .i32) v (runesS s):=by
 refine calls_hide fun R' hR'=>?_
 go_enter Tryz.func110,Tryz.ntmps110
 go_wp2_with fail
 go_loopw[3,4] (fun ov iv wr=>∃(pos:Nat) (acc:List Int) (A:Option Addr) (cp:Nat),ov= .slice A acc.length cp∧iv=I (pos:Int)∧pos≤s.size∧acc.length≤pos∧Hid (NewRow w wr 21 (Value.int .i32) (.slice A acc.length cp) acc)∧Hid (acc++runesF s s.size pos=runesS s)) (fun _ iv _=>s.size-(intOf iv).toNat)
 case atStart=>exact⟨0,[],some ⟨w.heap.size,0,none⟩,0,rfl,rfl,Nat.zero_le _,Nat.le_refl _,hid (NewRow.empty w _ _ (Value.int .i32) rfl),hid rfl⟩
 case round=>
  obtain⟨pos,acc,A,cp,rfl,rfl,hps,hap,HR,HE⟩:=hrel
  by_cases hp:pos<s.size
  ·have hpI:(pos:Int)<(s.size:Int):=by omega
   have hex:=HE.out;rw[runesF_next hp (by omega)]at hex
   have hle:=decode_le s pos hp;have hd1:=decode_pos s pos;have hbd:=decode_bound s pos;have hat:=atP_dec s pos;generalize hdd:Utf8.decode s pos=dd at*;obtain⟨dr,dk⟩:=dd;dsimp only at*;clear HE hdd
   go_wp2_with fail
   refine(ref4_at s hs pos hp wr).mono ?_;rintro e w2 ⟨rfl,hk⟩;have hsw:=HR.out.2.size;have hR2:NewRow w w2 21 (Value.int .i32) (.slice A acc.length cp) acc:=⟨ownB_keepS HR.out.1 hk,HR.out.2.trans (hk.mono fun b hb=>Nat.lt_of_lt_of_le hb hsw)⟩;have hs2:=hk.size;clear HR hk;have HR2:=hid hR2;have Hex:=hid hex;clear hR2 hex
   rcases hat with⟨h1,h2⟩|⟨h1,h2⟩
   ·rw[h1];injection h2 with h3 h4
    subst h3 h4;clear h1;obtain⟨i0,hi,hz0,hz1,hz2⟩:=info_partsF Tryz.infoI32'
    go_wp2_with (at_builtin;go_must (refine wpList_append_own_at _ rfl _ _ 179 rfl (w.heap.size) 21 i0 (.int .i32 0) 1 4 Tryz.underlying179 hi hz0 hz1 hz2 rfl (by decide) (.slice A acc.length cp) acc.length (acc.map (Value.int .i32)) rfl (ownB_keepS HR2.out.1 ((Keeps.refl _ _).alloc (fun b hb=>hb) _)) ⟨w2.heap.size,0,none⟩ 1 1 [.int .i32 65533] rfl (by simp) (own_news (own_lit w2 0 _ _ 1 1 [.int .i32 65533] rfl rfl (by decide) (Nat.zero_le _))) ?_ ?_ ?_ ?_ ?_))
    all_goals(try(first|with_reducible exact one1 _ _|with_reducible exact one2 _ _ _|with_reducible exact one4 _ _ _ _ _|with_reducible exact oneM _ _|exact rfl|exact fun _ _=>rfl|exact⟨rfl,rfl⟩|exact⟨rfl,rfl,rfl⟩|exact⟨rfl,rfl,rfl,rfl⟩|(unfold maxLen;omega)|omega|(simp;omega)|(simp;done)))
    (try clear hi)
    (try clear hz0)
    (try clear hz1)
    (try clear hz2)
    intro v' w6 hown hgr _ hf;have hN:=NewRow.push HR2.out hown hgr;obtain⟨A',cp',rfl⟩:=ownB_form hown;have hex2:(acc++[65533])++runesF s s.size (pos+1)=runesS s:=by rw[←Hex.out];simp
    clear hown hgr hf HR2;have HN:=hid hN;have Hex2:=hid hex2;clear hN hex2
    go_wp2_with fail
    go_roundw
    case rel=>exact⟨pos+1,acc++[65533],A',cp',by simp,by go_num,by omega,by simp;omega,by simpa using HN,Hex2⟩
    case measure=>exact msA
   ·rw[h2];rw[h2]at h1;dsimp only at h1;have hkb:((dk:Int)==0)=false:=by simpa using h1
    obtain⟨dx,hdx⟩:∃x:Int,x=(dr:Int):=⟨_,rfl⟩;rw[←hdx]at Hex ⊢;clear h1 h2 hdx;obtain⟨i0,hi,hz0,hz1,hz2⟩:=info_partsF Tryz.infoI32'
    go_wp2_with (at_builtin;go_must (refine wpList_append_own_at _ rfl _ _ 179 rfl (w.heap.size) 21 i0 (.int .i32 0) 1 4 Tryz.underlying179 hi hz0 hz1 hz2 rfl (by decide) (.slice A acc.length cp) acc.length (acc.map (Value.int .i32)) rfl (ownB_keepS HR2.out.1 ((Keeps.refl _ _).alloc (fun b hb=>hb) _)) ⟨w2.heap.size,0,none⟩ 1 1 [.int .i32 dx] rfl (by simp) (own_news (own_lit w2 0 _ _ 1 1 [.int .i32 dx] rfl rfl (by decide) (Nat.zero_le _))) ?_ ?_ ?_ ?_ ?_))
    all_goals(try(first|with_reducible exact one1 _ _|with_reducible exact one2 _ _ _|with_reducible exact one4 _ _ _ _ _|with_reducible exact oneM _ _|exact rfl|exact fun _ _=>rfl|exact⟨rfl,rfl⟩|exact⟨rfl,rfl,rfl⟩|exact⟨rfl,rfl,rfl,rfl⟩|(unfold maxLen;omega)|omega|(simp;omega)|(simp;done)))
    (try clear hi)
    (try clear hz0)
    (try clear hz1)
    (try clear hz2)
    intro v' w6 hown hgr _ hf;have hN:=NewRow.push HR2.out hown hgr;obtain⟨A',cp',rfl⟩:=ownB_form hown;have hex2:(acc++[dx])++runesF s s.size (pos+dk)=runesS s:=by rw[←Hex.out];simp
    clear hown hgr hf HR2;have HN:=hid hN;have Hex2:=hid hex2;clear hN hex2
    go_wp2_with fail
    go_roundw
    case rel=>exact⟨pos+dk,acc++[dx],A',cp',by simp,by go_num,by omega,by simp;omega,by simpa using HN,Hex2⟩
    case measure=>exact msA
  ·have hpI:¬(pos:Int)<(s.size:Int):=by omega
   have hex:=HE.out;rw[runesF_end hp,List.append_nil]at hex;have Hex:=hid hex;clear hex
   go_wp2_with fail
   exact hR'.out _ _ ⟨_,rfl,by rw[←Hex.out];exact HR.out⟩
theorem one8 (bs:List UInt8):∀u∈bs.map u8v,u.oneCell'=true:=by intro u hu;obtain⟨x,_,rfl⟩:=List.mem_map.1 hu;rfl
structure RowM where
 birth:Int
 id:Int
 len:Int
 tomb:Int
end Go.Proofs.YtogdknnkhkjmcaaGreatDoor
