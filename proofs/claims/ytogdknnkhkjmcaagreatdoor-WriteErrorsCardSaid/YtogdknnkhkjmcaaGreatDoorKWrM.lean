/- Lemmas on the programs that the statement reaches. -/
import Derived.Test.YtogdknnkhkjmcaaGreatDoorKWrB
import Derived.Test.YtogdknnkhkjmcaaGreatDoorKWrG
namespace Go.Proofs.YtogdknnkhkjmcaaGreatDoor
open Go.RowKit
set_option linter.all false
def valR (r:Int):Prop:=0≤r∧r≤55295
theorem word_valR {r:Int}(h:isW r=true):valR (foldM r):=by
 have hc:classM r≠0:=by
  intro h0;unfold isW at h;rw[h0]at h
  cases h
 unfold valR;have h1:48≤r∧r≤55203:=by
  rw[classM_ifs]at hc
  omega
 rw[foldM_ifs]
 omega
theorem ofNat_n (n:Nat)(h:n<256):(UInt8.ofNat n).toNat=n:=by
 rw[UInt8.toNat_ofNat',Nat.mod_eq_of_lt h]
set_option maxRecDepth 100000 in
set_option maxHeartbeats 2000000 in
theorem dec_enc (r:Int)(h:valR r)(m:List UInt8):dec0 (encB r++m)=(r.toNat,(encB r).length):=by
 obtain⟨h0,h1⟩:=h;obtain⟨n,rfl⟩:∃n:Nat,r=n:=⟨r.toNat,by omega⟩
 have hv:Utf8.valid (n:Int)=true:=by
  unfold Utf8.valid;have:decide ((n:Int)<0xD800)=true:=decide_eq_true (by omega)
  rw[this]
  simp
 have hn:n≤55295:=by omega
 have hcode:encB (n:Int)=if n<128 then [UInt8.ofNat n]else if n<2048 then [UInt8.ofNat (192+n/64),UInt8.ofNat (128+n%64)]else [UInt8.ofNat (224+n/4096),UInt8.ofNat (128+n/64%64),UInt8.ofNat (128+n%64)]:=by
  unfold encB Utf8.encode;rw[hv];simp only[if_true,Int.toNat_natCast]
  by_cases h1:n<128
  ·rw[if_pos h1,if_pos h1]
  ·rw[if_neg h1,if_neg h1]
   by_cases h2:n<2048
   ·rw[if_pos h2,if_pos h2]
   ·rw[if_neg h2,if_neg h2,if_pos (by omega)]
 rw[hcode,Int.toNat_natCast];clear hcode hv h0 h1
 by_cases h1:n<128
 ·rw[if_pos h1];have e0:gB ([UInt8.ofNat n]++m) 0=n:=ofNat_n n (by omega)
  unfold dec0 Lib.decodeN;rw[e0,if_pos h1]
  rfl
 ·rw[if_neg h1]
  by_cases h2:n<2048
  ·rw[if_pos h2];have e0:gB ([UInt8.ofNat (192+n/64),UInt8.ofNat (128+n%64)]++m) 0=192+n/64:=ofNat_n _ (by omega)
   have e1:gB ([UInt8.ofNat (192+n/64),UInt8.ofNat (128+n%64)]++m) 1=128+n%64:=ofNat_n _ (by omega)
   have el:([UInt8.ofNat (192+n/64),UInt8.ofNat (128+n%64)]++m).length=m.length+2:=by simp
   unfold dec0 Lib.decodeN;rw[e0,e1,el,if_neg (by omega),if_pos (by omega),if_pos (by omega)]
   show(_,2)=(_,2)
   congr 1
   omega
  ·rw[if_neg h2];have e0:gB ([UInt8.ofNat (224+n/4096),UInt8.ofNat (128+n/64%64),UInt8.ofNat (128+n%64)]++m) 0=224+n/4096:=ofNat_n _ (by omega)
   have e1:gB ([UInt8.ofNat (224+n/4096),UInt8.ofNat (128+n/64%64),UInt8.ofNat (128+n%64)]++m) 1=128+n/64%64:=ofNat_n _ (by omega)
   have e2:gB ([UInt8.ofNat (224+n/4096),UInt8.ofNat (128+n/64%64),UInt8.ofNat (128+n%64)]++m) 2=128+n%64:=ofNat_n _ (by omega)
   have el:([UInt8.ofNat (224+n/4096),UInt8.ofNat (128+n/64%64),UInt8.ofNat (128+n%64)]++m).length=m.length+3:=by simp
   unfold dec0 Lib.decodeN;rw[e0,e1,e2,el,if_neg (by omega),if_neg (by omega),if_pos (by omega),if_pos (by omega)]
   show(_,3)=(_,3)
   congr 1
   omega
theorem runesB_enc (r:Int)(h:valR r)(m:List UInt8):runesB (encB r++m)=r::runesB m:=by
 have hp:=encB_pos r;have hd:=dec_enc r h m
 cases he:encB r with
 |nil=>rw[he]at hp;cases hp
 |cons c t=>
  rw[he]at hd;rw[List.cons_append]at hd ⊢;rw[runesB_cons,hd];have:((r.toNat:Nat):Int)=r:=by have:=h.1;omega
  rw[this]
  congr 2
  show(c::(t++m)).drop (c::t).length=m;rw[←List.cons_append,List.drop_left]
theorem runes_textV:∀(l:List Int),(∀r∈l,valR r)→runesB (textB l)=l
 | [],_=>rfl
 |r::l,h=>by
  rw[textB_cons,runesB_enc r (h r (List.mem_cons_self ..)),runes_textV l fun x hx=>h x (List.mem_cons_of_mem _ hx)]
theorem termP_fit (ws:List Int)(h:∀r∈ws,isW r=true):termP ws=⟨(fitL 16 [] (ws.map foldM)).toArray⟩:=by
 unfold termP fitS;rw[runesS_B];show(⟨(fitL 16 [] (runesB (textB (ws.map foldM)))).toArray⟩:ByteArray)=_;rw[runes_textV _ fun r hr=>by
  obtain⟨x,hx,rfl⟩:=List.mem_map.1 hr;exact word_valR (h x hx)]
theorem allL_word:∀(ws:List Int),(∀r∈ws,isW r=true)→∀(o:List UInt8) (fu:Bool) (p:Nat) (r:Int) (l:List Int),isW r=false→
  allL o fu true p (ws++r::l)=(⟨(if fu then o else fitL 16 o (ws.map foldM)).toArray⟩,p)::allL [] false false (p+1) l
 | [],_,o,fu,p,r,l,hr=>by
  rw[List.nil_append,allL_cons,if_pos hr,if_pos rfl]
  cases fu<;>rfl
 |a::ws,hw,o,fu,p,r,l,hr=>by
  have ha:=hw a (List.mem_cons_self ..);have ih:=allL_word ws fun x hx=>hw x (List.mem_cons_of_mem _ hx);rw[List.cons_append,allL_cons,if_neg (by rw[ha];decide),List.map_cons,fitL_cons]
  cases fu with
  |true=>
   rw[Bool.true_or,if_pos rfl,ih _ _ _ _ _ hr]
   rfl
  |false=>
   rw[Bool.false_or]
   by_cases hb:16<o.length+(encB (foldM a)).length
   ·rw[if_pos (decide_eq_true hb),ih _ _ _ _ _ hr,if_pos rfl,if_neg (by decide),if_pos (by omega:(encB (foldM a)).length+o.length>16)]
   ·rw[if_neg (by simpa using hb),ih _ _ _ _ _ hr,if_neg (by decide),if_neg (by decide),if_neg (by omega:¬(encB (foldM a)).length+o.length>16)]
theorem allL_some (o:List UInt8)(fu so:Bool)(p:Nat)(r:Int)(l:List Int)(h:isW r=true):allL o fu so p (r::l)=allL o fu true p (r::l):=by
 have e:¬(true=false):=by decide
 rw[allL_cons,allL_cons,h,if_neg e,if_neg e]
theorem tw_all (f:Int→Bool):∀(l:List Int),∀x∈l.takeWhile f,f x=true
 | [],x,h=>by cases h
 |a::l,x,h=>by
  rw[List.takeWhile_cons]at h
  cases ha:f a with
  |false=>rw[ha]at h;cases h
  |true=>
   rw[ha]at h
   rcases List.mem_cons.1 h with rfl|h
   ·exact ha
   ·exact tw_all f l x h
theorem isW_32:isW 32=false:=rfl
theorem words_eqL:∀(N:Nat) (l:List Int) (p:Nat),l.length≤N→wordsF (allL [] false false p (l++[32]))=wordsR p l
 |_,[],p,_=>by rw[wordsR_nil];rfl
 |0,_::_,_,h=>absurd h (by simp)
 |N+1,r::l,p,h=>by
  rw[List.length_cons]at h;rw[wordsR_cons]
  cases hr:isW r with
  |false=>
   rw[List.cons_append,allL_cons,if_pos hr,if_neg (by decide),if_neg (by decide)]
   exact words_eqL N l p (by omega)
  |true=>
   rw[if_pos rfl];have hsplit:r::l=(r::l.takeWhile isW)++l.dropWhile isW:=by rw[List.cons_append,List.takeWhile_append_dropWhile]
   have hall:∀x∈r::l.takeWhile isW,isW x=true:=fun x hx=>by
    rcases List.mem_cons.1 hx with rfl|hx
    ·exact hr
    ·exact tw_all isW l x hx
   have hterm:=termP_fit _ hall;have hlen:=dw_len l;rw[hsplit];have htw:(r::l.takeWhile isW).length≤(r::l).length:=by
    simp only[List.length_cons];have:=(List.takeWhile_sublist isW (l:=l)).length_le
    omega
   cases hd:l.dropWhile isW with
   |nil=>
    rw[List.append_nil,List.cons_append,allL_some _ _ _ _ _ _ hr,←List.cons_append,allL_word _ hall _ _ _ _ _ isW_32,if_neg (by decide),←hterm]
    have h0:allL [] false false (p+1) []=[]:=rfl;rw[h0];show wordsF [_]=if _ then wordsR (p+1) ([]:List Int)else _::wordsR (p+1) ([]:List Int)
    rw[wordsR_nil];unfold wordsF;rw[List.filter_cons]
    cases stopP (termP (r::l.takeWhile isW))<;>rfl
   |cons d ds=>
    have hdw:isW d=false:=by
     have:=List.head?_dropWhile_not isW l;rw[hd]at this
     simpa using this
    have hdl:ds.length≤N:=by
     rw[hd]at hlen;simp only[List.drop_one,List.tail_cons]at hlen
     omega
    rw[List.append_assoc,List.cons_append,List.cons_append,allL_some _ _ _ _ _ _ hr,←List.cons_append,allL_word _ hall _ _ _ _ _ hdw,if_neg (by decide),←hterm]
    show wordsF (_::_)=if _ then wordsR (p+1) ds else _::wordsR (p+1) ds
    rw[←words_eqL N ds (p+1) hdl];unfold wordsF;rw[List.filter_cons]
    cases stopP (termP (r::l.takeWhile isW))<;>rfl
theorem words_eq (s:ByteArray):wordsF (allS s)=wordsR 0 (runesS s):=words_eqL _ _ _ (Nat.le_refl _)
structure Pools where
 b:Nat→Nat
 n:Nat→Nat
def sz (k:Nat):Nat:=match k with|0=>4|1=>16|2=>64|_=>256
structure Pools.ok (P:Pools):Prop where
 b0:3≤P.b 0
 b1:P.b 1=P.b 0+4*P.n 0
 b2:P.b 2=P.b 1+16*P.n 1
 b3:P.b 3=P.b 2+64*P.n 2
 top:P.b 3+256*P.n 3≤65536
structure PlanM.lays (p:PlanM)(P:Pools):Prop where
 b:∀k,k≤3→p.bK k=(P.b k:Int)
 s:∀k,k≤3→p.sK k=((sz k*P.n k:Nat):Int)
def Pools.In (P:Pools)(k i x a:Nat):Prop:=k≤3∧i<P.n k∧a<sz k∧x=P.b k+sz k*i+a
theorem k_cases {k:Nat}(h:k≤3):k=0∨k=1∨k=2∨k=3:=by omega
theorem cls_of {p:PlanM}{P:Pools}(hP:P.ok)(hl:p.lays P){k i x a:Nat}(h:P.In k i x a):p.cls (x:Int)=((k:Int),(a:Int)):=by
 obtain⟨hk,hi,ha,hx⟩:=h;obtain⟨b0,b1,b2,b3,top⟩:=hP;have hb:=hl.b;have hs:=hl.s;have e0:=hb 0 (by omega);have e1:=hb 1 (by omega);have e2:=hb 2 (by omega);have e3:=hb 3 (by omega)
 have s0:=hs 0 (by omega);have s1:=hs 1 (by omega);have s2:=hs 2 (by omega);have s3:=hs 3 (by omega)
 simp only[sz]at s0 s1 s2 s3;have hno:∀j,j<k→¬p.has j (x:Int):=by
  intro j hj hh;unfold PlanM.has at hh;have hj3:j=0∨j=1∨j=2:=by omega
  rcases k_cases hk with rfl|rfl|rfl|rfl<;>simp only[sz]at ha hx<;>rcases hj3 with rfl|rfl|rfl<;>first|omega|(simp only[e0,s0]at hh;omega)|(simp only[e1,s1]at hh;omega)|(simp only[e2,s2]at hh;omega)
 have hyes:p.has k (x:Int):=by
  unfold PlanM.has
  rcases k_cases hk with rfl|rfl|rfl|rfl<;>simp only[sz]at ha hx<;>first|(rw[e0,s0];omega)|(rw[e1,s1];omega)|(rw[e2,s2];omega)|(rw[e3,s3];omega)
 rw[PlanM.cls_at p x k hk hno hyes];refine Prod.ext rfl ?_;show((x:Int)-p.bK k)%szK k=(a:Int)
 rcases k_cases hk with rfl|rfl|rfl|rfl<;>simp only[sz]at ha hx<;>simp only[szK]<;>first|(rw[e0];omega)|(rw[e1];omega)|(rw[e2];omega)|(rw[e3];omega)
theorem in_lt {P:Pools}(hP:P.ok){k i x a:Nat}(h:P.In k i x a):3≤x∧x<P.b 3+256*P.n 3:=by
 obtain⟨hk,hi,ha,hx⟩:=h;obtain⟨b0,b1,b2,b3,top⟩:=hP
 rcases k_cases hk with rfl|rfl|rfl|rfl<;>simp only[sz]at ha hx<;>omega
def updQ (q:Nat→Nat)(c:Nat):Nat→Nat:=fun k=>if k=c then q k+1 else q k
def putMem (μ:List Int)(t a:Nat)(v:Int):List Int:=if t=0 then μ.set (a+1) v else(μ.set a (t:Int)).set (a+1) v
theorem sz_ge {k:Nat}(h:k≤3):4≤sz k∧sz k≤256:=by rcases k_cases h with rfl|rfl|rfl|rfl<;>decide
theorem set_get_ne {l:List Int}{i j:Nat}{v:Int}(h:j≠i):(l.set i v)[j]? =l[j]? :=List.getElem?_set_ne (fun e=>h e.symm)
theorem In.succ {P:Pools}{k i x a:Nat}(h:P.In k i x a)(ha:a+1<sz k):P.In k i (x+1) (a+1):=⟨h.1,h.2.1,ha,by have:=h.2.2.2;omega⟩
theorem next_mid {p:PlanM}{P:Pools}(hP:P.ok)(hl:p.lays P){k i x a:Nat}(h:P.In k i x a)(h1:1≤a)(h2:a+1<sz k):p.next (x:Int)=(-1,true):=by
 have hc:=cls_of hP hl h;have hx:=in_lt hP h;unfold PlanM.next
 rw[if_neg (by omega),hc]
 have hk:=h.1;have e:((k:Int)).toNat=k:=by omega
 have hz:szK k=(sz k:Int):=by rcases k_cases hk with rfl|rfl|rfl|rfl<;>rfl
 simp only;rw[if_neg (by omega),e,hz,if_neg (by omega)]
theorem next_end {p:PlanM}{P:Pools}(hP:P.ok)(hl:p.lays P){k i x a:Nat}(h:P.In k i x a)(h2:a+1=sz k):p.next (x:Int)=(((min (k+1) 3:Nat):Int),true):=by
 have hc:=cls_of hP hl h;have hx:=in_lt hP h;have hk:=h.1;have hs:=sz_ge hk;unfold PlanM.next
 rw[if_neg (by omega),hc]
 have e:((k:Int)).toNat=k:=by omega
 have hz:szK k=(sz k:Int):=by rcases k_cases hk with rfl|rfl|rfl|rfl<;>rfl
 simp only;rw[if_neg (by omega),e,hz,if_pos (by omega)]
 congr 1
 split<;>omega
theorem next_zero (p:PlanM):p.next 0=(0,true):=by unfold PlanM.next;rw[if_pos rfl]
theorem putIn_ideal (μ:List Int)(t:Nat)(v:Int)(h:t+1<μ.length):(putIn t v).ideal μ=some ((),μ.set (t+1) v,1):=by
 unfold putIn;simp only[Tree.ideal];rw[if_pos (by omega)]
 have e:((t:Int)+1).toNat=t+1:=by omega
 rw[e];rfl
theorem putNew_ideal (μ:List Int)(t a:Nat)(v:Int)(h:a+1<μ.length):∃n,n≤2∧(putNew t a v).ideal μ=some ((),putMem μ t a v,n):=by
 have e:((a:Int)+1).toNat=a+1:=by omega
 have e2:((a:Int)).toNat=a:=by omega
 unfold putNew putMem
 by_cases h0:t=0
 ·subst h0;refine⟨1,by omega,?_⟩
  rw[if_pos (show((0:Nat):Int)=0 from rfl),if_pos rfl]
  simp only[Tree.ideal];rw[if_pos (by omega),e];rfl
 ·refine⟨2,by omega,?_⟩
  rw[if_neg (by omega),if_neg h0]
  simp only[Tree.ideal];rw[if_pos (by omega),e2,if_pos (by rw[List.length_set];omega),e];rfl
def UsedIs (u:V6)(q:Nat→Nat):Prop:=∀k,k≤3→u.uK k=((sz k*q k:Nat):Int)
theorem szK_eq {k:Nat}(h:k≤3):szK k=(sz k:Int):=by rcases k_cases h with rfl|rfl|rfl|rfl<;>rfl
theorem UsedIs.up {u:V6}{q:Nat→Nat}(h:UsedIs u q){c:Nat}(hc:c≤3):UsedIs (u.up c (szK c)) (updQ q c):=by
 have h0:=h 0 (by omega);have h1:=h 1 (by omega);have h2:=h 2 (by omega);have h3:=h 3 (by omega)
 intro k hk;unfold updQ
 rcases k_cases hc with rfl|rfl|rfl|rfl<;>rcases k_cases hk with rfl|rfl|rfl|rfl<;>simp only[V6.uK,V6.up,szK,sz]at h0 h1 h2 h3 ⊢ <;>first|omega|(simp;done)|(simp;omega)|(split<;>omega)
theorem PlanM.lays.wf {p:PlanM}{P:Pools}(hP:P.ok)(hl:p.lays P):p.Wf:=by
 obtain⟨b0,b1,b2,b3,top⟩:=hP;have e0:=hl.b 0 (by omega);have e1:=hl.b 1 (by omega);have e2:=hl.b 2 (by omega);have e3:=hl.b 3 (by omega)
 have s0:=hl.s 0 (by omega);have s1:=hl.s 1 (by omega);have s2:=hl.s 2 (by omega);have s3:=hl.s 3 (by omega)
 simp only[sz]at s0 s1 s2 s3
 constructor
 ·intro k
  match k with
  |0=>rw[e0];omega
  |1=>rw[e1];omega
  |2=>rw[e2];omega
  |3=>rw[e3];omega
  |k+4=>show 0≤p.bK 3∧p.bK 3≤65536;rw[e3];omega
 ·intro k
  match k with
  |0=>rw[s0];omega
  |1=>rw[s1];omega
  |2=>rw[s2];omega
  |3=>rw[s3];omega
  |k+4=>show 0≤p.sK 3∧p.sK 3≤65536;rw[s3];omega
def refL:Nat→Nat→Nat→V6→V6
 |0,_,_,out=>out
 |n+1,left,k,out=>if left=0 then refL n (sz k-2) (min (k+1) 3) (out.up k (szK k))else refL n (left-1) k out
theorem refL_rest:∀(m n left k:Nat) (out:V6),m≤left→refL (m+n) left k out=refL n (left-m) k out:=by
 intro m
 induction m with
 |zero=>intro n left k out _;rw[Nat.zero_add,Nat.sub_zero]
 |succ m ih=>
  intro n left k out h;rw[show m+1+n=(m+n)+1 from by omega,refL,if_neg (by omega),ih _ _ _ _ (by omega),show left-1-m=left-(m+1)from by omega]
theorem needL_ref:∀(f n room k:Nat) (out:V6),k≤3→n+(if room=0 then 1 else 0)<f→needL f (n:Int) (room:Int) k out=refL n room k out:=by
 intro f
 induction f with
 |zero=>intro n room k out _ h;omega
 |succ f ih=>
  intro n room k out hk h;have hs:=sz_ge hk;have hz:=szK_eq hk;rw[needL]
  by_cases hgt:n>room
  ·rw[if_pos (by omega),show(n:Int)-(room:Int)=((n-room:Nat):Int)from by omega,hz,show(sz k:Int)-1=((sz k-1:Nat):Int)from by omega,ih _ _ _ _ (by omega) (by rw[if_neg (by omega)];split at h<;>omega)]
   obtain⟨m,hm⟩:∃m,n-room=m+1:=⟨n-room-1,by omega⟩
   have e1:refL n room k out=refL (m+1) 0 k out:=by
    have:=refL_rest room (n-room) room k out (Nat.le_refl _);rw[show room+(n-room)=n from by omega,Nat.sub_self,hm]at this
    exact this
   rw[e1,hm,refL,if_neg (by omega),show refL (m+1) 0 k out=refL m (sz k-2) (min (k+1) 3) (out.up k (szK k))from by rw[refL,if_pos rfl],hz,show sz k-1-1=sz k-2 from by omega]
  ·rw[if_neg (by omega)]
   have:=refL_rest n 0 room k out (by omega)
   rw[Nat.add_zero]at this;rw[this];rfl
theorem needL_neg (f:Nat)(n room:Int)(k:Nat)(out:V6)(h:n≤0)(hr:0≤room):needL f n room k out=out:=by
 cases f with
 |zero=>rfl
 |succ f=>rw[needL,if_neg (by omega)]
def leftOf:Option (Nat×Nat×Nat)→Nat
 |none=>0
 |some (k,_,a)=>sz k-1-a
def classOf:Option (Nat×Nat×Nat)→Nat
 |none=>0
 |some (k,_,_)=>min (k+1) 3
def V6.add (u v:V6):V6:=⟨u.a0+v.a0,u.a1+v.a1,u.a2+v.a2,u.a3+v.a3,u.a4+v.a4,u.a5+v.a5⟩
theorem V6.add_up (u v:V6)(k:Nat)(z:Int):u.add (v.up k z)=(u.add v).up k z:=by
 unfold V6.add V6.up
 split<;>simp<;>omega
theorem refL_add:∀(n left k:Nat) (u v:V6),refL n left k (u.add v)=u.add (refL n left k v):=by
 intro n
 induction n with
 |zero=>intro _ _ _ _;rfl
 |succ n ih=>
  intro left k u v;rw[refL,refL]
  split
  ·rw[←V6.add_up,ih]
  ·rw[ih]
theorem V6.add_zero (u:V6):u.add zerosN=u:=by unfold V6.add zerosN;simp
theorem up_ge (u:V6)(c:Nat)(z:Int)(hz:0≤z)(k:Nat):u.uK k≤(u.up c z).uK k:=by
 unfold V6.up V6.uK
 split<;>split<;>simp<;>omega
theorem refL_ge:∀(n left k:Nat) (u:V6) (i:Nat),u.uK i≤(refL n left k u).uK i:=by
 intro n
 induction n with
 |zero=>intro _ _ _ _;exact Int.le_refl _
 |succ n ih=>
  intro left k u i;rw[refL]
  split
  ·exact Int.le_trans (up_ge u k _ (by have:=szK_bd k;omega) i) (ih _ _ _ _)
  ·exact ih _ _ _ _
def cmpL (cs:List Int)(a:Int):List Int→Nat→Bool×Bool
 | [],_=>(true,true)
 |c::C,k=>if(atL cs (a+2+k)).2=false then(false,false)else if(atL cs (a+2+k)).1≠c then(false,true)else cmpL cs a C (k+1)
def isL (cs:List Int)(a:Int)(key:ByteArray):Bool×Bool:=
 if(atL cs (a+1)).2=false then(false,false)else if(atL cs (a+1)).1≠(key.size:Int)then(false,true)else cmpL cs a (packC (bsL key)) 0
theorem atL_u32 {cs:List Int}(h:∀x∈cs,U32 x)(a:Int):U32 (atL cs a).1:=by
 unfold atL
 split
 ·rw[List.getD_eq_getElem?_getD]
  cases e:cs[a.toNat]? with
  |none=>exact⟨by decide,by decide⟩
  |some x=>exact h x (List.mem_of_getElem? e)
 ·exact⟨by decide,by decide⟩
set_option maxRecDepth 100000 in
set_option maxHeartbeats 2000000 in
theorem ref10_is (cs:List Int)(a:Int)(key:ByteArray)(A:Option Addr)(cp:Nat)(w:World)(K:Nat→Prop)(hb:∀b,K b→b<w.heap.size)(hsl:SlAt w K 1 (.slice A cs.length cp) cs.length (cs.map (Value.int .u32)))(hn:cs.length≤65536)(hu:∀x∈cs,U32 x)(ha:U32 a)(ht:key.size≤1000):
  Z 90 #[.slice A cs.length cp,I a,.string key] w fun e w'=>e= .returned (.tuple #[.bool (isL cs a key).1,.bool (isL cs a key).2])∧Keeps (· <w.heap.size) w w':=by
 have hat:=fun W (h:SlAt W K 1 (.slice A cs.length cp) cs.length (cs.map (Value.int .u32))) x=>ref10_at cs x A cp W K h hn;have hau:=fun x=>atL_u32 hu x;obtain⟨ha0,ha1⟩:=ha;have hw1:IntKind.i64.wrap (a+1)=a+1:=IntWalk.i64_in _ (by omega)
 have hw2:IntKind.i64.wrap (a+2)=a+2:=IntWalk.i64_in _ (by omega)
 obtain⟨res,hres⟩:∃r,r=isL cs a key:=⟨_,rfl⟩;rw[←hres];unfold isL at hres;have h1:=hat w hsl (a+1);have hu1:=hau (a+1);generalize atL cs (a+1)=x1 at*;obtain⟨n,ok⟩:=x1;dsimp only at hres h1 hu1;obtain⟨hu10,hu11⟩:=hu1;have Hat:=hid hat;have Hau:=hid hau;have Hb:=hid hb;have Hsl:=hid hsl;have Hu:=hid hu;have Hres:=hid hres;have H1:=hid h1;clear hat hau hb hsl hu hres h1
 refine calls_hide fun R' hR'=>?_
 go_enter Tryz.func90,Tryz.ntmps90
 go_wp2_with fail
 refine H1.out.mono ?_;rintro e w1 ⟨rfl,rfl⟩
 cases ok with
 |false=>
  have hr:res=(false,false):=by rw[Hres.out];rfl
  have Hr:=hid hr;clear hr
  go_wp2_with fail
  refine hR'.out _ _ ⟨?_,Keeps.refl _ _⟩;rw[Hr.out];rfl
 |true=>
  by_cases hne:n=(key.size:Int)
  ·have hnb:(n !=(key.size:Int))=false:=by simp[hne]
   have hr:res=cmpL cs a (packC (bsL key)) 0:=by rw[Hres.out,if_neg (by decide),if_neg (by simpa using hne)]
   clear hne Hres;have Hr:=hid hr;clear hr
   go_wp2_with fail
   refine(ref7_cells key (by omega) w1).mono ?_
   rintro e w2 ⟨v,rfl,hN1,hN2⟩;have hpl:(packC (bsL key)).length=(key.size+3)/4:=by rw[packC_len,bsL_len]
   generalize packC (bsL key)=C at*;obtain⟨A2,c2,rfl⟩:=ownB_form hN1;have hS2:=ownB_slAt hN1;have hsl2:=Hsl.out.keep hN2 Hb.out;clear hN1;have HS2:=hid hS2;have Hsl2:=hid hsl2;have HN2:=hid hN2;clear hS2 hsl2 hN2
   go_wp2_with fail
   go_loopw[35] (fun kv wx=>∃(k:Nat),kv=I (k:Int)∧k≤C.length∧Hid (res=cmpL cs a (C.drop k) k)∧w2=wx) (fun kv _=>C.length-(intOf kv).toNat)
   case atStart=>exact⟨0,rfl,Nat.zero_le _,Hr,rfl⟩
   case round=>
    clear Hr;obtain⟨k,rfl,hk,HE,rfl⟩:=hrel
    by_cases hlt:k<C.length
    ·have hltI:(k:Int)<(C.length:Int):=by omega
     have hC3:C.length≤300:=by omega
     obtain⟨x,hx⟩:∃x,C[k]? =some x:=⟨_,List.getElem?_eq_getElem hlt⟩;obtain⟨b3,o3,c3,hv,hb3,hc3⟩:=HS2.out.get k x hx;injection hv with e1 e2 e3
     subst e1 e3;have hex:=HE.out;rw[show C.drop k=x::C.drop (k+1) by
      obtain⟨h9,h8⟩:=List.getElem?_eq_some_iff.1 hx;rw[List.drop_eq_getElem_cons h9,h8]]at hex
     have hw3:IntKind.i64.wrap (a+2+(k:Int))=a+2+(k:Int):=IntWalk.i64_in _ (by omega)
     unfold cmpL at hex;have h1:=Hat.out w2 Hsl2.out (a+2+k);have hu2:=Hau.out (a+2+k);generalize atL cs (a+2+k)=x1 at*;obtain⟨y,ok2⟩:=x1;dsimp only at hex h1 hu2;obtain⟨hu20,hu21⟩:=hu2;clear hx HE hb3;have Hex:=hid hex;have H1:=hid h1;clear hex h1
     go_wp2_with fail
     refine H1.out.mono ?_;rintro e w4 ⟨rfl,rfl⟩
     cases ok2 with
     |false=>
      have hr:res=(false,false):=by rw[Hex.out];rfl
      exact c104
     |true=>
      by_cases hne2:y=x
      ·have hnb2:(y !=x)=false:=by simp[hne2]
       have hr:res=cmpL cs a (C.drop (k+1)) (k+1):=by rw[Hex.out,if_neg (by decide),if_neg (by simpa using hne2)]
       clear hne2 Hex;exact c115
      ·have hnb2:(y !=x)=true:=by simpa using hne2
       have hr:res=(false,true):=by rw[Hex.out,if_neg (by decide),if_pos hne2]
       clear hne2;exact c104
    ·obtain rfl:k=C.length:=by omega
     have hltI:¬(C.length:Int)<(C.length:Int):=by omega
     have hr:=HE.out;rw[List.drop_length]at hr;clear HE;exact c104
  ·have hnb:(n !=(key.size:Int))=true:=by simpa using hne
   have hr:res=(false,true):=by rw[Hres.out,if_neg (by decide),if_pos hne]
   clear hne;have Hr:=hid hr;clear hr
   go_wp2_with fail
   refine hR'.out _ _ ⟨?_,Keeps.refl _ _⟩;rw[Hr.out];rfl
def findL (cs:List Int)(s:Int)(n h:Nat)(key:ByteArray):Nat→Nat→Int×Int×Bool
 |0,_=>(0,-1,true)
 |f+1,i=>if(atL cs (s+(((h+i)%n:Nat):Int))).2=false then(0,0,false)else if(atL cs (s+(((h+i)%n:Nat):Int))).1=0 then(0,(((h+i)%n:Nat):Int),true)else
   if(isL cs (atL cs (s+(((h+i)%n:Nat):Int))).1 key).2=false then(0,0,false)else if(isL cs (atL cs (s+(((h+i)%n:Nat):Int))).1 key).1=true then((atL cs (s+(((h+i)%n:Nat):Int))).1,(((h+i)%n:Nat):Int),true)else findL cs s n h key f (i+1)
set_option maxRecDepth 100000 in
set_option maxHeartbeats 4000000 in
theorem ref10_find (cs:List Int)(s0:Int)(n:Nat)(key:ByteArray)(A:Option Addr)(cp:Nat)(w:World)(K:Nat→Prop)(hb:∀b,K b→b<w.heap.size)(hsl:SlAt w K 1 (.slice A cs.length cp) cs.length (cs.map (Value.int .u32)))(hcn:cs.length≤65536)(hu:∀x∈cs,U32 x)
  (hs:0≤s0∧s0≤65536) (hn:1≤n∧n≤65536) (ht:key.size≤1000):
  Z 61 #[.slice A cs.length cp,I s0,I n,.string key] w fun e w'=>
   e= .returned (.tuple #[I (findL cs s0 n (homeD n (bsL key)) key n 0).1,I (findL cs s0 n (homeD n (bsL key)) key n 0).2.1,.bool (findL cs s0 n (homeD n (bsL key)) key n 0).2.2])∧Keeps (· <w.heap.size) w w':=by
 have hat:=fun W (h:SlAt W K 1 (.slice A cs.length cp) cs.length (cs.map (Value.int .u32))) x=>ref10_at cs x A cp W K h hcn;have his:=fun W hb (h:SlAt W K 1 (.slice A cs.length cp) cs.length (cs.map (Value.int .u32))) x hx=>ref10_is cs x key A cp W K hb h hcn hu hx ht;have hau:=fun x=>atL_u32 hu x;obtain⟨s00,s01⟩:=hs;obtain⟨n0,n1⟩:=hn;have hhr:=hash_range (bsL key);have hhome:homeD n (bsL key)<n:=Nat.mod_lt _ (by omega)
 have hhe:hashL (bsL key)%(n:Int)=(homeD n (bsL key):Int):=by unfold homeD;rw[Int.natCast_emod,Int.toNat_of_nonneg hhr.1]
 generalize homeD n (bsL key)=ho at*;obtain⟨res,hres⟩:∃r,r=findL cs s0 n ho key n 0:=⟨_,rfl⟩;rw[←hres];have Hat:=hid hat;have His:=hid his;have Hau:=hid hau;have Hb:=hid hb;have Hsl:=hid hsl;have Hu:=hid hu;have Hres:=hid hres;have Hhe:=hid hhe;clear hat his hau hb hsl hu hres hhe;have hn1':¬(n:Int)<1:=by omega
 refine calls_hide fun R' hR'=>?_
 go_enter Tryz.func61,Tryz.ntmps61
 go_wp2_with fail
 refine(hash7 key (by omega) w).mono ?_
 rintro e w1 ⟨rfl,rfl⟩
 go_wp2_with fail
 have hww:wrap64 (hashL (bsL key)%(n:Int))=(ho:Int):=by rw[Hhe.out];unfold wrap64;omega
 rw[hww];clear hww hhr
 go_loopw[12] (fun iv wx=>∃(k:Nat),iv=I (k:Int)∧k≤n∧Hid (res=findL cs s0 n ho key (n-k) k)∧Hid (Keeps (· <w.heap.size) w wx)) (fun iv _=>n-(intOf iv).toNat)
 case atStart=>exact⟨0,rfl,Nat.zero_le _,Hres,hid (Keeps.refl _ _)⟩
 case round=>
  obtain⟨k,rfl,hk,HE,HK⟩:=hrel
  by_cases hlt:k<n
  ·have hltI:(k:Int)<(n:Int):=by omega
   have hex:=HE.out;have e:n-k=(n-(k+1))+1:=by omega
   rw[e]at hex;unfold findL at hex;clear e;have zz64:=PLift.up @c365;exact c363
  ·obtain rfl:k=n:=by omega
   have hltI:¬(k:Int)<(k:Int):=by omega
   have hr:res=(0,-1,true):=by rw[HE.out,Nat.sub_self];rfl
   clear HE;have Hr:=hid hr;clear hr
   go_wp2_with fail
   refine hR'.out _ _ ⟨?_,HK.out⟩;exact c59
theorem atL_of {cs:List Int}{a:Int}{i:Nat}{x:Int}(ha:a=(i:Int))(h:cs[i]? =some x):atL cs a=(x,true):=by
 obtain⟨h1,h2⟩:=getD_of h;unfold atL;rw[if_pos ⟨by omega,by omega⟩,ha,Int.toNat_natCast,h2]
theorem cmpL_of {cs:List Int}{a:Nat}:∀(L2 L1:List Int) (k:Nat),L1.length=L2.length→(∀(j:Nat) c,L1[j]? =some c→cs[a+2+k+j]? =some c)→cmpL cs (a:Int) L2 k=(decide (L1=L2),true)
 | [],L1,k,hl,_=>by
  have:L1=[]:=List.length_eq_zero_iff.1 hl;subst this
  rfl
 |c::L2,[],k,hl,_=>by simp at hl
 |c::L2,d::L1,k,hl,h=>by
  have e:atL cs ((a:Int)+2+k)=(d,true):=atL_of (i:=a+2+k+0) (by omega) (h 0 d rfl)
  unfold cmpL;rw[e,if_neg (fun h=>Bool.noConfusion h)]
  by_cases hdc:d=c
  ·subst hdc;rw[if_neg (by simp),cmpL_of L2 L1 (k+1) (by simpa using hl) (fun j c hj=>by
    have:=h (j+1) c (by simpa using hj)
    rw[←this,show a+2+(k+1)+j=a+2+k+(j+1) by omega])]
   simp
  ·rw[if_pos hdc]
   simp[hdc]
theorem isL_of {cs:List Int}{s n:Nat}{t:Tab}{lo hi:Nat}(R:Rep cs s n t lo hi){i a:Nat}{k:List Int}(hi':i<n)(e:t i=some (k,a))(key:ByteArray):isL cs (a:Int) key=(decide (k=bsL key),true):=by
 obtain⟨r1,r2,r3,r4⟩:=R.lies _ _ _ hi' e;have h1:atL cs ((a:Int)+1)=((k.length:Int),true):=atL_of (i:=a+1) (by omega) (R.size _ _ _ hi' e)
 unfold isL;rw[h1,if_neg (fun h=>Bool.noConfusion h)]
 by_cases hl:k.length=key.size
 ·rw[if_neg (by simp[hl])]
  have hpl:(packC k).length=(packC (bsL key)).length:=by rw[packC_len,packC_len,bsL_len,hl]
  rw[cmpL_of (packC (bsL key)) (packC k) 0 hpl (fun j c hj=>R.key _ _ _ hi' e j c hj)];have:(packC k=packC (bsL key))↔(k=bsL key):=⟨fun h=>packC_inj r4 (bsL_range key) (by rw[hl,bsL_len]) h,fun h=>by rw[h]⟩
  simp[this]
 ·rw[if_pos (by simp;omega)]
  have:k≠bsL key:=fun h=>hl (by rw[h,bsL_len])
  simp[this]
theorem findL_of {cs:List Int}{s n:Nat}{t:Tab}{lo hi:Nat}(R:Rep cs s n t lo hi)(hn:0<n)(h:Nat)(key:ByteArray):∀(f i:Nat),findL cs (s:Int) n h key f i=((probe t n h (bsL key) f i).1,(probe t n h (bsL key) f i).2,true)
 |0,i=>rfl
 |f+1,i=>by
  have hlt:(h+i)%n<n:=Nat.mod_lt _ hn;have ih:=findL_of R hn h key f (i+1);unfold findL
  cases e:t ((h+i)%n)with
  |none=>
   have h1:atL cs ((s:Int)+(((h+i)%n:Nat):Int))=(0,true):=atL_of (i:=s+(h+i)%n) (by omega) (R.void _ hlt e)
   rw[h1,probe_none e]
   simp
  |some pr=>
   obtain⟨k,a⟩:=pr;obtain⟨r1,r2,r3,r4⟩:=R.lies _ _ _ hlt e;have hpos:=R.pos;have h1:atL cs ((s:Int)+(((h+i)%n:Nat):Int))=((a:Int),true):=atL_of (i:=s+(h+i)%n) (by omega) (R.slot _ _ _ hlt e)
   have h2:=isL_of R hlt e key;rw[h1];dsimp only;rw[h2,if_neg (fun h=>Bool.noConfusion h),if_neg (by omega)]
   by_cases hk:k=bsL key
   ·subst hk;rw[probe_hit e]
    simp
   ·rw[probe_miss e hk,ih]
    simp[hk]
theorem findD_cost {cs:List Int}{s n:Nat}{t:Tab}{lo hi:Nat}(R:Rep cs s n t lo hi)(hn:0<n)(h:Nat)(key:List Int)(hk:∀x∈key,Byte x):∀(f i:Nat),
  ∃cnt,cnt≤f*(2+(packC key).length)∧(findD s n h (packC key) key.length f i).ideal cs=some (probe t n h key f i,cs,cnt)
 |0,i=>⟨0,by omega,rfl⟩
 |f+1,i=>by
  have hlt:(h+i)%n<n:=Nat.mod_lt _ hn;obtain⟨cnt,hc,hi'⟩:=findD_cost R hn h key hk f (i+1);have hmul:(f+1)*(2+(packC key).length)=f*(2+(packC key).length)+(2+(packC key).length):=Nat.succ_mul _ _;rw[hmul];generalize f*(2+(packC key).length)=F at hc ⊢
  cases e:t ((h+i)%n)with
  |none=>
   refine⟨1,by omega,?_⟩
   rw[probe_none e];unfold findD;rw[load_ideal (i:=s+(h+i)%n) (by omega) (R.void _ hlt e)]
   rfl
  |some p=>
   obtain⟨k,a⟩:=p;obtain⟨r1,r2,r3,r4⟩:=R.lies _ _ _ hlt e;have hpos:=R.pos;unfold findD;rw[load_ideal (i:=s+(h+i)%n) (by omega) (R.slot _ _ _ hlt e)]
   have step2:(Tree.load ((a:Int)+1) fun ln=>if ln≠(key.length:Int)then findD s n h (packC key) key.length f (i+1)else
     (cmpD a (packC key) 0).bind fun ok=>if ok=true then .ret ((a:Int),(((h+i)%n:Nat):Int))else findD s n h (packC key) key.length f (i+1)).ideal cs=
     ((if(k.length:Int)≠(key.length:Int)then findD s n h (packC key) key.length f (i+1)else
     (cmpD a (packC key) 0).bind fun ok=>if ok=true then .ret ((a:Int),(((h+i)%n:Nat):Int))else findD s n h (packC key) key.length f (i+1)).ideal cs).map fun y=>(y.1,y.2.1,y.2.2+1):=
    load_ideal (i:=a+1) (by omega) (R.size _ _ _ hlt e)
   have hz:((a:Int)=0)=False:=by simp;omega
   have inner:∃c2,c2≤F+1+(packC key).length∧(Tree.load ((a:Int)+1) fun ln=>if ln≠(key.length:Int)then findD s n h (packC key) key.length f (i+1)else
     (cmpD a (packC key) 0).bind fun ok=>if ok=true then .ret ((a:Int),(((h+i)%n:Nat):Int))else findD s n h (packC key) key.length f (i+1)).ideal cs=some (probe t n h key (f+1) i,cs,c2):=by
    rw[step2]
    by_cases hl:k.length=key.length
    ·rw[if_neg (by simp[hl])]
     have hpl:(packC k).length=(packC key).length:=by rw[packC_len,packC_len,hl]
     obtain⟨m,hm,hmi⟩:=cmpD_ideal (cs:=cs) (a:=a) (packC key) (packC k) 0 hpl (fun j c hj=>R.key _ _ _ hlt e j c hj);rw[Tree.ideal_bind,hmi];exact c91
    ·rw[if_pos (by omega),hi',probe_miss e (fun e=>hl (by rw[e]))]
     exact⟨cnt+1,by omega,rfl⟩
   obtain⟨c2,h1,h2⟩:=inner;refine⟨c2+1,by omega,?_⟩
   have:((fun a:Int=>Tree.off fun o=>if o=true then .ret ((0:Int),(-1:Int))else if a=0 then .ret ((0:Int),(((h+i)%n:Nat):Int))else
    .load (a+1) fun ln=>if ln≠(key.length:Int)then findD s n h (packC key) key.length f (i+1)else
    (cmpD a (packC key) 0).bind fun ok=>if ok=true then .ret (a,(((h+i)%n:Nat):Int))else findD s n h (packC key) key.length f (i+1)) (a:Int)).ideal cs=some (probe t n h key (f+1) i,cs,c2):=by
    show(if false=true then _ else if(a:Int)=0 then _ else _:Tree (Int×Int)).ideal cs=_
    rw[if_neg (by decide),if_neg (by rw[hz];exact id)]
    exact h2
   rw[this];rfl
theorem findK_ideal {cs:List Int}{s n:Nat}{t:Tab}{lo hi:Nat}(R:Rep cs s n t lo hi)(hn:0<n)(key:ByteArray):∃cnt,cnt≤n*(2+(key.size+3)/4)∧
  (findK (s:Int) n key).ideal cs=some (probe t n (homeD n (bsL key)) (bsL key) n 0,cs,cnt):=by
 obtain⟨cnt,h1,h2⟩:=findD_cost R hn (homeD n (bsL key)) (bsL key) (bsL_range key) n 0;rw[packC_len,bsL_len]at h1;rw[bsL_len]at h2;exact⟨cnt,h1,h2⟩
set_option maxHeartbeats 1000000 in
theorem same_key (t:TermM)(key:ByteArray)(kb:Nat)(w:World)(hk:w.cell? ⟨kb,0,none⟩=some (.string key))(hkl:kb<w.heap.size):
  Z 80 #[.agg #[.string t.key,I t.recd,I t.tl,I t.cnt],.pointer (some ⟨kb,0,none⟩)] w fun e w'=>e= .returned (.bool (t.key.toList==key.toList))∧Keeps (· <w.heap.size) w w':=by
 refine calls_hide fun R' hR'=>?_;obtain⟨tk,t1,t2,t3⟩:=t;dsimp only at*
 go_enter Tryz.func80,Tryz.ntmps80
 go_wp2_with fail
 exact hR'.out _ _ ⟨rfl,(Keeps.refl _ _).alloc (fun b hb=>hb) _⟩
theorem keyIx_min {key:ByteArray}{l:List TermM}{j:Nat}{t:TermM}(h:l[j]? =some t)(hj:j<keyIx key l):(t.key.toList==key.toList)=false:=by
 obtain⟨hl,rfl⟩:=List.getElem?_eq_some_iff.1 h;have:=List.not_of_lt_findIdx (p:=fun t:TermM=>t.key.toList==key.toList) (xs:=l) (i:=j) hj
 simpa using this
theorem keyIx_hit {key:ByteArray}{l:List TermM}{t:TermM}(h:l[keyIx key l]? =some t):(t.key.toList==key.toList)=true:=by
 obtain⟨hl,rfl⟩:=List.getElem?_eq_some_iff.1 h;exact List.findIdx_getElem (p:=fun t:TermM=>t.key.toList==key.toList) (xs:=l) (w:=hl)
set_option maxRecDepth 100000 in
set_option maxHeartbeats 2000000 in
theorem index_func (all:List TermM)(A:Option Addr)(cp:Nat)(key:ByteArray)(t0:TermM)(kb:Nat)(w:World)(hk:w.cell? ⟨kb,0,none⟩=some (.string key))(hkl:kb<w.heap.size)(hl:all.length≤65536)
  (hown:w.ownsRow 0 154 4 (.slice A all.length cp) all.length (all.flatMap TermM.cells)) (h0:all[keyIx key all]? =some t0):
  Z 79 #[.slice A all.length cp,.func (.func 80) #[] #[.pointer (some ⟨kb,0,none⟩)]] w fun e w'=>e= .returned (I (keyIx key all:Nat))∧Keeps (· <w.heap.size) w w':=by
 have hol:∀b,(Value.slice A all.length cp).ownBlock=some b→b<w.heap.size:=fun b hb=>(hown.lt b hb).2;have hkx:=(List.getElem?_eq_some_iff.1 h0).1;have Hown:=hid hown;have H0:=hid h0;have Hk:=hid hk;have Hol:=hid hol;clear hown h0 hk hol;refine calls_hide fun R' hR'=>?_
 go_enter Tryz.func79,Tryz.ntmps79
 go_wp2_with fail
 go_loopw[8] (fun iv wx=>∃(i:Nat),iv=I (i:Int)∧i≤keyIx key all∧Hid (Keeps (· <w.heap.size) w wx)) (fun iv _=>all.length-(intOf iv).toNat)
 case atStart=>exact⟨0,rfl,Nat.zero_le _,hid (Keeps.refl _ _)⟩
 case round=>
  obtain⟨i,rfl,hi,HK⟩:=hrel;have hlt:i<all.length:=by omega
  have hltI:(i:Int)<(all.length:Int):=by omega
  obtain⟨t,hx⟩:∃x,all[i]? =some x:=⟨_,List.getElem?_eq_getElem hlt⟩;have hO:=own_of_keep Hown.out HK.out Hol.out;obtain⟨g,rfl,gc⟩:=own_rec TermM.len4 hO hx;have a0:=gc 0 _ (by decide) rfl
  have a1:=gc 1 _ (by decide) rfl
  have a2:=gc 2 _ (by decide) rfl
  have a3:=gc 3 _ (by decide) rfl
  simp only[Nat.add_zero]at a0;have hcall:=fun W h1 h2=>same_key t key kb W h1 h2;have hmin:i<keyIx key all→(t.key.toList==key.toList)=false:=fun h=>keyIx_min hx h;have hhit:i=keyIx key all→(t.key.toList==key.toList)=true:=fun h=>by subst h;obtain rfl:=Option.some.inj (H0.out.symm.trans hx);exact keyIx_hit H0.out
  have hkw:=(World.cell?_of_block (a:=⟨kb,0,none⟩) (HK.out.block kb hkl)).trans Hk.out;have hks:=Nat.lt_of_lt_of_le hkl HK.out.size;obtain⟨tk,tr,tt,tc⟩:=t;dsimp only at hcall hmin hhit;have hc2:=hcall wr hkw hks;have a0:wr.cell? ⟨g,i*4,none⟩=some (.string tk):=a0;have a1:wr.cell? ⟨g,i*4+1,none⟩=some (I tr):=a1;have a2:wr.cell? ⟨g,i*4+2,none⟩=some (I tt):=a2
  have a3:wr.cell? ⟨g,i*4+3,none⟩=some (I tc):=a3;clear gc hcall hO hx hkw hks;generalize (tk.toList==key.toList)=bb at*
  by_cases hik:i=keyIx key all
  ·have hbb:=hhit hik;subst hbb;clear hmin hhit;have Hc2:=hid hc2;have Hik:=hid hik;clear hc2 hik
   go_wp2_with (go_at_call 80;refine Hc2.out.mono ?_;rintro e w2 ⟨rfl,hk2⟩)
   refine hR'.out _ _ ⟨?_,HK.out.trans (hk2.mono fun b hb=>Nat.lt_of_lt_of_le hb HK.out.size)⟩;rw[←Hik.out];rfl
  ·have hbb:=hmin (by omega)
   subst hbb;clear hmin hhit;have Hc2:=hid hc2;clear hc2
   go_wp2_with (go_at_call 80;refine Hc2.out.mono ?_;rintro e w2 ⟨rfl,hk2⟩)
   have hK2:=HK.out.trans (hk2.mono fun b hb=>Nat.lt_of_lt_of_le hb HK.out.size)
   go_roundw
   case rel=>exact⟨i+1,by go_num,by omega,hid hK2⟩
   case measure=>exact msA
theorem dict_put_any {w:World}{K:Nat→Prop}{r m c:Nat}{s:St}(h:RM w K r m c s)(p:PlanM)(u:V6)(s0 sl:Int)(t:ByteArray)(ht:t.size≤1000)
  (hu:UIn p u) (h3:p.size.a4≤65536) (hpb:0≤p.base.a4∧p.base.a4≤65536) (hs0:0≤s0∧s0≤65536) (hsl: -1≤sl∧sl≤65536):
  Z 81 #[.pointer (some ⟨r,0,none⟩),p.val,u.val,I s0,I sl,.string t] w fun e w'=>
   (∃x:Int,e= .returned (.tuple #[I ((dictPutT p u s0 sl t).exec s).1.1,V6.val ((dictPutT p u s0 sl t).exec s).1.2,I x]))∧
    RM w' K r m c ((dictPutT p u s0 sl t).exec s).2∧Keeps K w w':=by
 obtain⟨hu0,hu1⟩:=hu.2.2.2.2.1;unfold dictPutT
 split
 ·rename_i hh
  refine(dict_put_full h p u s0 sl t ht hu0 hu1 hh h3 ).mono ?_;rintro e w' ⟨rfl,h1,h2⟩;exact⟨⟨_,rfl⟩,h1,h2⟩
 ·rename_i hh
  refine(dict_put h p u s0 sl t ht hu0 (by omega) h3 hpb hs0 hsl).mono ?_
  exact c135
theorem dictPutT_ok {p:PlanM}{u:V6}{s0 sl:Int}{t:ByteArray}{s:St}(hu:UIn p u):UIn p ((dictPutT p u s0 sl t).exec s).1.2:=by
 unfold dictPutT
 split
 ·exact hu.zero
 ·rename_i hh
  rw[Tree.exec_bind];obtain⟨h0,h1,h2,h3,h4,h5⟩:=hu;show UIn p { u with a4:=u.a4+(2+(((t.size+3)/4:Nat):Int)) }
  unfold UIn;dsimp only
  omega
theorem key_same {s t:ByteArray}(h:(s.toList==t.toList)=true):s=t:=by
 have h:=eq_of_beq h;rw[ByteArray.toList_eq,ByteArray.toList_eq]at h;have h2:s.data=t.data:=Array.toList_inj.1 h
 cases s;cases t;simp_all
structure P1 (w W:World)(K:Nat→Prop)(r m c B B' kb:Nat)(A:Option Addr)(n cp:Nat)(p:PlanM)(u:V6)(x:TokI)(key:ByteArray)(all:List TermM)(s:St):Prop where
 rm:RM W (fun b=>(K b∨(Value.slice A n cp).ownBlock=some b)∨(B≤b∧b<B')) r m c s
 own:TermOwn W K (.slice A all.length cp) all
 kp:Keeps K w W
 b0:Blk W B p.flat
 b1:Blk W (B+1) u.list
 b2:Blk W (B+1+1) (tokI x)
 b3:Blk W (B+1+1+1) zero6.list
 bk:Blk W kb [.string key]
 len:all.length=n
 h0:B+1+1+1<kb∧kb<B'
 lt:∀b,K b∨(Value.slice A n cp).ownBlock=some b→b<B
theorem P1.keep {w W W':World}{K:Nat→Prop}{r m c B B' kb:Nat}{A:Option Addr}{n cp:Nat}{p:PlanM}{u:V6}{x:TokI}{key:ByteArray}{all:List TermM}{s s':St}(h:P1 w W K r m c B B' kb A n cp p u x key all s)
  (h1:RM W' (fun b=>(K b∨(Value.slice A n cp).ownBlock=some b)∨(B≤b∧b<B')) r m c s') (h2:Keeps (fun b=>(K b∨(Value.slice A n cp).ownBlock=some b)∨(B≤b∧b<B')) W W'):P1 w W' K r m c B B' kb A n cp p u x key all s':=by
 obtain⟨g1,g2⟩:=h.h0;refine⟨h1,⟨own_of_keep h.own.1 h2 fun b hb=>Or.inl (Or.inr (by rw[←h.len];exact hb)),h.own.2⟩,h.kp.trans (h2.mono fun b hb=>Or.inl (Or.inl hb)),h.b0.keep h2 (Or.inr (by omega)),h.b1.keep h2 (Or.inr (by omega)),h.b2.keep h2 (Or.inr (by omega)),h.b3.keep h2 (Or.inr (by omega)),h.bk.keep h2 (Or.inr (by omega)),h.len,h.h0,h.lt⟩
theorem P1.set {w W:World}{K:Nat→Prop}{r m c B B' kb g:Nat}{n cp:Nat}{p:PlanM}{u:V6}{x:TokI}{key:ByteArray}{all:List TermM}{s:St}(h:P1 w W K r m c B B' kb (some ⟨g,0,none⟩) n cp p u x key all s)
  {i j:Nat} {a a':TermM} {v:Value} (hi:all[i]? =some a) (hj:j<4) (he:a'.cells=a.cells.set j v):P1 w (W.setCell ⟨g,i*4+j,none⟩ v) K r m c B B' kb (some ⟨g,0,none⟩) n cp p u x key (all.set i a') s:=by
 obtain⟨g1,g2⟩:=h.h0;have hg:=h.lt g (Or.inr rfl);have hO:=own_recSet TermM.len4 h.own.1 (a':=a') (u:=v) hi hj he;have hne:∀b,B≤b→b≠g:=fun b hb e=>by omega
 refine⟨h.rm.setK (a:=⟨g,i*4+j,none⟩) (Or.inl (Or.inr rfl)) v,⟨hO,fun b hb=>h.own.2 b (by rw[List.length_set]at hb;exact hb)⟩,h.kp.setCell (p:=⟨g,i*4+j,none⟩) (h.own.2 g rfl) v,h.b0.set_ne v (hne _ (by omega)),h.b1.set_ne v (hne _ (by omega)),h.b2.set_ne v (hne _ (by omega)),h.b3.set_ne v (hne _ (by omega)),h.bk.set_ne v (hne _ (by omega)),by rw[List.length_set];exact h.len,h.h0,h.lt⟩
theorem P1.setU {w W:World}{K:Nat→Prop}{r m c B B' kb:Nat}{A:Option Addr}{n cp:Nat}{p:PlanM}{u:V6}{x:TokI}{key:ByteArray}{all:List TermM}{s:St}(h:P1 w W K r m c B B' kb A n cp p u x key all s)(a0 a1 a2 a3 a4 a5:Int):
  P1 w ((((((W.setCell ⟨B+1,0,none⟩ (I a0)).setCell ⟨B+1,1,none⟩ (I a1)).setCell ⟨B+1,2,none⟩ (I a2)).setCell ⟨B+1,3,none⟩ (I a3)).setCell ⟨B+1,4,none⟩ (I a4)).setCell ⟨B+1,5,none⟩ (I a5)) K r m c B B' kb A n cp p ⟨a0,a1,a2,a3,a4,a5⟩ x key all s:=by
 obtain⟨g1,g2⟩:=h.h0;have hb:(fun b=>(K b∨(Value.slice A n cp).ownBlock=some b)∨(B≤b∧b<B')) (B+1):=Or.inr (by omega)
 have hK:¬K (B+1):=fun hk=>by have:=h.lt _ (Or.inl hk);omega
 have ho:∀W':World,W'.ownsRow 0 154 4 (.slice A all.length cp) all.length (all.flatMap TermM.cells)→∀i v,(W'.setCell ⟨B+1,i,none⟩ v).ownsRow 0 154 4 (.slice A all.length cp) all.length (all.flatMap TermM.cells):=fun W' hW i v=>
  ownsRow_setCell_other hW (a:=⟨B+1,i,none⟩) (fun e=>by have:=h.lt (B+1) (Or.inr (by rw[←h.len];exact e));omega) v
 refine⟨(((((h.rm.setK (a:=⟨B+1,0,none⟩) hb _).setK (a:=⟨B+1,1,none⟩) hb _).setK (a:=⟨B+1,2,none⟩) hb _).setK (a:=⟨B+1,3,none⟩) hb _).setK (a:=⟨B+1,4,none⟩) hb _).setK (a:=⟨B+1,5,none⟩) hb _,
  ⟨ho _ (ho _ (ho _ (ho _ (ho _ (ho _ h.own.1 _ _) _ _) _ _) _ _) _ _) _ _,h.own.2⟩,h.kp.set6 _ _ _ _ _ _ hK,h.b0.set6_ne _ _ _ _ _ _ (by omega),h.b1.set6 _ _ _ _ _ _ rfl,h.b2.set6_ne _ _ _ _ _ _ (by omega),h.b3.set6_ne _ _ _ _ _ _ (by omega),h.bk.set6_ne _ _ _ _ _ _ (by omega),h.len,h.h0,h.lt⟩
theorem P1.drew {w W:World}{K:Nat→Prop}{r m c B B' kb:Nat}{A:Option Addr}{n cp:Nat}{p:PlanM}{u:V6}{x:TokI}{key:ByteArray}{all:List TermM}{s:St}(h:P1 w W K r m c B B' kb A n cp p u x key all s):P1 w W.drew K r m c B B' kb A n cp p u x key all s:=
 h.keep h.rm.drew (Keeps.refl _ _).drew
def S7 (B g o:Nat)(p:PlanM)(u:V6)(tt:Int)(W:World):Prop:=(e0_15 W B (.int .i64 p.base.a0) (.int .i64 p.base.a1) (.int .i64 p.base.a2) (.int .i64 p.base.a3) (.int .i64 p.base.a4) (.int .i64 p.base.a5) (.int .i64 p.size.a0) (.int .i64 p.size.a1) (.int .i64 p.size.a2) (.int .i64 p.size.a3) (.int .i64 p.size.a4) (.int .i64 p.size.a5) (.int .i64 p.cells) (.int .i64 p.slots) (.int .i64 p.live) (e0_6 W (B+1) (.int .i64 u.a0) (.int .i64 u.a1) (.int .i64 u.a2) (.int .i64 u.a3) (.int .i64 u.a4) (.int .i64 u.a5) (W.cell? ⟨g,o,none⟩=some (.int .i64 tt))))
theorem P1.s7 {w W:World}{K:Nat→Prop}{r m c B B' kb g:Nat}{n cp:Nat}{p:PlanM}{u:V6}{x:TokI}{key:ByteArray}{all:List TermM}{s:St}(h:P1 w W K r m c B B' kb (some ⟨g,0,none⟩) n cp p u x key all s){i:Nat}{t:TermM}(hi:all[i]? =some t):S7 B g (i*4+2) p u t.tl W:=by
 have h0:=h.b0;have h1:=h.b1;unfold PlanM.flat at h0;unfold V6.list at h1;obtain⟨g',e,hc⟩:=own_rec TermM.len4 h.own.1 hi;injection e with e
 injection e with e
 subst e;exact⟨h0.cell 0,h0.cell 1,h0.cell 2,h0.cell 3,h0.cell 4,h0.cell 5,h0.cell 6,h0.cell 7,h0.cell 8,h0.cell 9,h0.cell 10,h0.cell 11,h0.cell 12,h0.cell 13,h0.cell 14,h1.cell 0,h1.cell 1,h1.cell 2,h1.cell 3,h1.cell 4,h1.cell 5,hc 2 _ (by decide) rfl⟩
def tokF (i:Nat)(t:ByteArray×Nat):TokI:=((i:Int),t.1,(t.2:Int))
def toksL:Nat→List ByteArray→List TokI
 |_,[]=>[]
 |i,s::l=>(wordsR 0 (runesS s)).map (tokF i)++toksL (i+1) l
def longF (fs:List ByteArray):Bool:=decide (4<fs.length)||fs.any fun s=>decide (512<s.size)
def toksM (fs:List ByteArray):Option (List TokI):=if longF fs=true then none else if 64<(toksL 0 fs).length then none else some (toksL 0 fs)
theorem wordsL_len:∀(f p:Nat) (rs:List Int),(wordsL f p rs).length≤f
 |0,_,_=>Nat.le_refl _
 |_+1,_,[]=>Nat.zero_le _
 |f+1,p,r::rs=>by
  unfold wordsL;have h1:=wordsL_len f (p+1) ((rs.dropWhile isW).drop 1);have h2:=wordsL_len f p rs
  split
  ·split
   ·omega
   ·rw[List.length_cons];omega
  ·omega
theorem wordsR_len (s:ByteArray):(wordsR 0 (runesS s)).length≤s.size:=Nat.le_trans (wordsL_len _ _ _) (runesF_len s s.size 0)
def TokOwn (w:World)(K:Nat→Prop)(v:Value)(ts:List TokI):Prop:=w.ownsRow 0 128 3 v ts.length (ts.flatMap tokI)∧∀b,v.ownBlock=some b→¬K b
theorem tokI_len (t:TokI):(tokI t).length=3:=rfl
theorem tokC_len (t:ByteArray×Nat):(tokC t).length=3:=rfl
theorem any_take {α:Type}{p:α→Bool}{l:List α}{i:Nat}{x:α}(hx:l[i]? =some x)(h:(l.take i).any p=false)(hp:p x=false):(l.take (i+1)).any p=false:=by
 obtain⟨h1,h2⟩:=List.getElem?_eq_some_iff.1 hx;rw[List.take_add_one,hx,List.any_append,h]
 simp[hp]
set_option maxRecDepth 100000 in
set_option maxHeartbeats 4000000 in
theorem token_tokens (fs:List ByteArray)(A:Option Addr)(cp:Nat)(w:World)(K:Nat→Prop)(hb:∀b,K b→b<w.heap.size)(hsl:SlAt w K 1 (.slice A fs.length cp) fs.length (fs.map Value.string))(hT:FoldTab w)(hfl:fs.length≤1000000):
  Z 50 #[.slice A fs.length cp] w fun e w'=>(match toksM fs with
   |none=>e= .returned (.tuple #[.slice none 0 0,.int .i64 4])
   |some l=>∃v,e= .returned (.tuple #[v,.int .i64 0])∧TokOwn w' (· <w.heap.size) v l)∧Keeps (· <w.heap.size) w w':=by
 have zz162:=PLift.up @c762;exact c760
theorem Tryz.infoSeg:(Tryz.prog.info? 65).map (fun i=>(i.zero,i.size,i.bytes))=some (some (.agg #[I 0,I 0,.bool false]),3,24):=by kernel_rfl
set_option maxRecDepth 100000 in
set_option maxHeartbeats 1000000 in
theorem seg_clone (l:List SegM)(A:Option Addr)(cp:Nat)(w:World)(K:Nat→Prop)(hb:∀b,K b→b<w.heap.size)(hsl:SlAt w K 3 (.slice A l.length cp) l.length (l.flatMap SegM.cells))(hl:0<l.length∧l.length≤65536):
  Z 54 #[.slice A l.length cp] w fun e w'=>∃v,e= .returned v∧w'.ownsRow w.heap.size 65 3 v l.length (l.flatMap SegM.cells)∧Keeps (· <w.heap.size) w w':=by
 obtain⟨hl0,hl1⟩:=hl;obtain⟨A',cap,h1,h2,h3,h4,h5⟩:=hsl;obtain⟨b,off,rfl,hkb,hc⟩:=h5 hl0;injection h1 with h1
 subst h1;have hbl:=hb b hkb;clear hkb;have Hc:=hid hc;have Hb:=hid hb;clear hc hb;refine calls_hide fun R' hR'=>?_
 go_enter Tryz.func54,Tryz.ntmps54
 have hnil:∀W,(Sem.run Tryz.prog (binOp BinOp.eql 44 (.slice (some ⟨b,off,none⟩) l.length cap) (.slice none 0 0)) W)= .ok (.bool false) W:=fun W=>by rfl
 go_upto_region 3 with fail
 have hcc:∀j u,(l.flatMap SegM.cells)[j]? =some u→(w.alloc (.cells #[] 65)).cell? ((⟨b,off,none⟩:Addr).add j)=some u:=fun j u hu=>by
  rw[Addr.add_lit];exact(World.cell?_of_block (a:=⟨b,off+j,none⟩) (((Keeps.refl (· <w.heap.size) w).alloc (fun b hb=>hb) _).block b hbl)).trans (Hc.out j u hu)
 have hone:∀u∈l.flatMap SegM.cells,u.oneCell'=true:=fun u hu=>by
  exact c140
 have hlen:(l.flatMap SegM.cells).length=l.length*3:=h4;have Hcc:=hid hcc;have Hone:=hid hone;have Hlen:=hid hlen;clear hcc hone hlen;obtain⟨i0,hi,hz0,hz1,hz2⟩:=info_partsF Tryz.infoSeg
 go_wp2_with (at_builtin;go_must (refine wpList_append_own_at _ rfl _ _ 44 rfl w.heap.size 65 i0 (.agg #[I 0,I 0,.bool false]) 3 24 Tryz.underlying44 hi hz0 hz1 hz2 rfl (by decide) (.slice (some ⟨w.heap.size,0,none⟩) 0 0) 0 [] rfl (own_lit w w.heap.size _ _ 3 0 [] rfl rfl (by decide) (Nat.le_refl _)) ⟨b,off,none⟩ l.length cp (l.flatMap SegM.cells) rfl Hlen.out Hcc.out ?_ ?_ ?_ ?_ ?_))
 all_goals(try(first|exact Hone.out|exact fun u x hx hu=>Hone.out u (List.mem_flatMap.2 ⟨x,hx,hu⟩)|(simp only[maxLen];omega)|omega|(simp;done)|(simp;omega)))
 intro v' w7 hown hgr _ hf;obtain⟨A',cp',rfl⟩:=ownB_form hown;have hka:Keeps (· <w.heap.size) w w7:=((Keeps.refl (· <w.heap.size) w).alloc (fun b hb=>hb) _).trans (keeps_append (fun b hb=>by have hb:b<w.heap.size:=hb;have:=World.size_alloc w (.cells #[] 65);omega) (fun b hb hk=>by have hk:b<w.heap.size:=hk;have hb:some w.heap.size=some b:=hb;injection hb with hb;omega) hgr)
 clear hgr hf;have Hown:=hid hown;have Hka:=hid hka;clear hown hka
 go_wp2_with fail
 exact hR'.out _ _ ⟨_,rfl,Hown.out,Hka.out⟩
end Go.Proofs.YtogdknnkhkjmcaaGreatDoor
