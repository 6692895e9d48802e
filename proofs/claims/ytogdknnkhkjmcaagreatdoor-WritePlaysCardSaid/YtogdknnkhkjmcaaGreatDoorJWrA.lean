/- Slices that read as lists of records. -/
import Derived.Test.YtogdknnkhkjmcaaGreatDoorJRcB
namespace Go.Proofs.YtogdknnkhkjmcaaGreatDoor
open Go.RowKit
set_option linter.all false
theorem SlAt.rec {α:Type}{f:α→List Value}{sz:Nat}{w:World}{K:Nat→Prop}{A:Option Addr}{c:Nat}{xs:List α}(hf:∀x∈xs,(f x).length=sz)(h:SlAt w K sz (.slice A xs.length c) xs.length (xs.flatMap f))(i:Nat)(x:α)(hi:xs[i]? =some x):
  ∃b off,A=some ⟨b,off,none⟩∧K b∧∀j u,(f x)[j]? =some u→w.cell? ⟨b,off+i*sz+j,none⟩=some u:=by
 obtain⟨A',cap,h1,h2,h3,h4,h5⟩:=h;have hlt:=(List.getElem?_eq_some_iff.1 hi).1;obtain⟨b,off,e,hb,hc⟩:=h5 (by omega)
 injection h1 with h1
 subst e;refine⟨b,off,h1,hb,fun j u hu=>?_⟩;have hj:=(List.getElem?_eq_some_iff.1 hu).1;rw[hf x (List.mem_of_getElem? hi)]at hj;have key:∀(ys:List α) (k:Nat),(∀x∈ys,(f x).length=sz)→ys[k]? =some x→(ys.flatMap f)[k*sz+j]? =some u:=by
  intro ys
  induction ys with
  |nil=>intro k _ hk;simp at hk
  |cons y ys ih=>
   intro k hf hk;have hy:=hf y List.mem_cons_self
   cases k with
   |zero=>
    simp only[List.getElem?_cons_zero,Option.some.injEq]at hk;subst hk;rw[List.flatMap_cons,Nat.zero_mul,Nat.zero_add,List.getElem?_append_left (by rw[hy];exact hj)]
    exact hu
   |succ k=>
    rw[List.getElem?_cons_succ]at hk;have e:(k+1)*sz+j=sz+(k*sz+j):=by rw[Nat.succ_mul];omega
    rw[List.flatMap_cons,e,List.getElem?_append_right (by rw[hy];omega),hy,Nat.add_sub_cancel_left]
    exact ih k (fun x hx=>hf x (List.mem_cons_of_mem _ hx)) hk
 rw[Nat.add_assoc];exact hc _ u (key xs i hf hi)
theorem SlAt.capOf {w:World}{K:Nat→Prop}{sz n:Nat}{A:Option Addr}{c:Nat}{xs:List Value}(h:SlAt w K sz (.slice A n c) n xs):n≤c∧c≤maxLen:=by
 obtain⟨A',cap,h1,h2,h3,_⟩:=h;injection h1 with _ _ hc
 subst hc;exact⟨h2,h3⟩
theorem ownB_set {w:World}{B E n sz g cap k:Nat}{xs:List Value}(h:w.ownsRow B E sz (.slice (some ⟨g,0,none⟩) n cap) n xs)(hn:0<n)(hk:k<xs.length)(u:Value):(w.setCell ⟨g,k,none⟩ u).ownsRow B E sz (.slice (some ⟨g,0,none⟩) n cap) n (xs.set k u):=by
 refine⟨by rw[List.length_set];exact h.1,?_⟩
 rcases h.2 with⟨h1,h2⟩|⟨g',c',cur,h1,h2,h3,h4,h5,h6,h7⟩
 ·omega
 ·injection h1 with e1 e2 e3
  injection e1 with e1
  injection e1 with e1
  subst e1 e3;refine Or.inr ⟨g,cap,cur.setIfInBounds k u,rfl,h2,by simp[World.setCell,Array.getElem?_modify,h3],h4,h5,by simpa using h6,?_⟩
  rw[Array.toList_setIfInBounds,List.take_set,h7]
theorem ownB_free {w:World}{B E n sz g cap:Nat}{xs:List Value}(h:w.ownsRow B E sz (.slice (some ⟨g,0,none⟩) n cap) n xs)(hn:0<n)(k:Nat):w.frozen? ⟨g,k,none⟩=false:=by
 rcases h.2 with⟨h1,h2⟩|⟨g',c',cur,h1,h2,h3,h4⟩
 ·omega
 ·injection h1 with e1 e2 e3
  injection e1 with e1
  injection e1 with e1
  subst e1
  simp[World.frozen?,h3]
theorem flat_set {α:Type}{f:α→List Value}{sz:Nat}(hf:∀x,(f x).length=sz):∀(l:List α) (i j:Nat) (a a':α) (u:Value),l[i]? =some a→j<sz→f a'=(f a).set j u→(l.flatMap f).set (i*sz+j) u=(l.set i a').flatMap f
 | [],i,j,a,a',u,h,_,_=>by cases h
 |x::l,0,j,a,a',u,h,hj,he=>by
  injection h with h
  subst h;rw[List.flatMap_cons,Nat.zero_mul,Nat.zero_add,List.set_append_left _ _ (by rw[hf];exact hj),List.set_cons_zero,List.flatMap_cons,he]
 |x::l,i+1,j,a,a',u,h,hj,he=>by
  rw[List.flatMap_cons,List.set_append_right _ _ (by rw[hf,Nat.succ_mul];omega),hf,show(i+1)*sz+j-sz=i*sz+j by rw[Nat.succ_mul];omega,flat_set hf l i j a a' u h hj he,List.set_cons_succ,List.flatMap_cons]
theorem flat_lenS {α:Type}{f:α→List Value}{sz:Nat}(hf:∀x,(f x).length=sz):∀l:List α,(l.flatMap f).length=l.length*sz
 | []=>by simp
 |x::l=>by rw[List.flatMap_cons,List.length_append,hf,flat_lenS hf l,List.length_cons,Nat.succ_mul];omega
theorem flat_getS {α:Type}{f:α→List Value}{sz:Nat}(hf:∀x,(f x).length=sz):∀(l:List α) (i j:Nat) (a:α),l[i]? =some a→j<sz→(l.flatMap f)[i*sz+j]? =(f a)[j]?
 | [],i,j,a,h,_=>by cases h
 |x::l,0,j,a,h,hj=>by
  injection h with h
  subst h;rw[List.flatMap_cons,Nat.zero_mul,Nat.zero_add,List.getElem?_append_left (by rw[hf];exact hj)]
 |x::l,i+1,j,a,h,hj=>by
  rw[List.flatMap_cons,List.getElem?_append_right (by rw[hf,Nat.succ_mul];omega),hf,show(i+1)*sz+j-sz=i*sz+j by rw[Nat.succ_mul];omega,flat_getS hf l i j a h hj]
theorem own_rec {α:Type}{f:α→List Value}{sz:Nat}(hf:∀x,(f x).length=sz){w:World}{B:Nat}{E:TypeId}{A:Option Addr}{cap:Nat}{l:List α}(h:w.ownsRow B E sz (.slice A l.length cap) l.length (l.flatMap f)){i:Nat}{a:α}(hi:l[i]? =some a):
  ∃g,A=some ⟨g,0,none⟩∧∀(j:Nat) (u:Value),j<sz→(f a)[j]? =some u→w.cell? ⟨g,i*sz+j,none⟩=some u:=by
 obtain⟨g,c9,hp⟩:=ownB_posS h (by have:=(List.getElem?_eq_some_iff.1 hi).1;omega)
 injection hp with e1 _ e3
 subst e1 e3;refine⟨g,rfl,fun j u hj hu=>?_⟩;have:=own_newsS h (i*sz+j) u (by rw[flat_getS hf l i j a hi hj];exact hu)
 rwa [Addr.add_lit,Nat.zero_add]at this
theorem own_recSet {α:Type}{f:α→List Value}{sz:Nat}(hf:∀x,(f x).length=sz){w:World}{B E g cap:Nat}{l:List α}(h:w.ownsRow B E sz (.slice (some ⟨g,0,none⟩) l.length cap) l.length (l.flatMap f)){i j:Nat}{a a':α}{u:Value}(hi:l[i]? =some a)(hj:j<sz)(he:f a'=(f a).set j u):
  (w.setCell ⟨g,i*sz+j,none⟩ u).ownsRow B E sz (.slice (some ⟨g,0,none⟩) (l.set i a').length cap) (l.set i a').length ((l.set i a').flatMap f):=by
 have hil:=(List.getElem?_eq_some_iff.1 hi).1;have hlt:i*sz+j<l.length*sz:=by
  have:(i+1)*sz≤l.length*sz:=Nat.mul_le_mul_right _ hil;rw[Nat.succ_mul]at this
  omega
 have:=ownB_set h (by omega) (k:=i*sz+j) (by rw[flat_lenS hf];exact hlt) u
 rw[List.length_set,←flat_set hf l i j a a' u hi hj he];exact this
set_option maxRecDepth 100000 in
set_option maxHeartbeats 1000000 in
theorem write_base (x:SegM)(w:World)(ha:Small x.addr):Calls Tryz.prog 31 #[.agg #[I x.addr,I x.docs,.bool x.sealed]] w fun e w'=>e= .returned (I x.base)∧Keeps (· <w.heap.size) w w':=by
 obtain⟨addr,docs,sealed⟩:=x;have hk:Keeps (· <w.heap.size) w (w.alloc (.cells #[I addr,I docs,.bool sealed] 65)):=(Keeps.refl _ _).alloc (fun b hb=>hb) _;obtain⟨h0,h1⟩:=ha;dsimp only at h0 h1;have Hk:=hid hk;clear hk;refine calls_hide fun R' hR'=>?_
 go_enter Tryz.func31,Tryz.ntmps31
 cases sealed with
 |true=>
  go_wp2_with fail
  exact hR'.out _ _ ⟨rfl,Hk.out⟩
 |false=>
  go_wp2_with fail
  exact hR'.out _ _ ⟨rfl,Hk.out⟩
theorem placeT_cons (id:Int)(x:SegM)(l:List SegM)(i:Nat)(s:St):(placeT id (x::l) i).exec s=if 0≤((findT x.base id x.docs 0).exec s).1 then(((i:Int),((findT x.base id x.docs 0).exec s).1,true),((findT x.base id x.docs 0).exec s).2)else(placeT id l (i+1)).exec ((findT x.base id x.docs 0).exec s).2:=by
 show((findT x.base id x.docs 0).bind _).exec s=_;rw[Tree.exec_bind]
 split<;>rfl
theorem SegM.len3 (l:List SegM):∀x∈l,x.cells.length=3:=fun _ _=>rfl
theorem Small.base {x:SegM}(h: -1099511627700≤x.addr∧x.addr≤1099511627700):Small x.base:=by
 unfold SegM.base Small
 split<;>omega
theorem findT_range (b id:Int):∀(n d:Nat) (s:St),-1≤((findT b id n d).exec s).1∧((findT b id n d).exec s).1≤(n+d:Nat)
 |0,d,s=>⟨Int.le_refl _,by show(-1:Int)≤_;omega⟩
 |n+1,d,s=>by
  rw[findT_step]
  split
  ·exact⟨Int.le_refl _,by show(-1:Int)≤_;omega⟩
  ·split
   ·exact⟨by show(-1:Int)≤(d:Int);omega,by show(d:Int)≤_;omega⟩
   ·have:=findT_range b id n (d+1) (s.load (b+4*d+1)).2;exact⟨this.1,by have:=this.2;omega⟩
set_option maxRecDepth 100000 in
set_option maxHeartbeats 4000000 in
theorem write_place {w:World}{K:Nat→Prop}{r m c:Nat}{s:St}(h:RM w K r m c s)(W:WrM)(A:Option Addr)(cp:Nat)(id:Int)(hsl:SlAt w K 3 (.slice A W.segs.length cp) W.segs.length (W.segs.flatMap SegM.cells))
  (hok:∀x∈W.segs,(-1099511627700≤x.addr∧x.addr≤1099511627700)∧x.docs≤65536) (hn:W.segs.length≤65536) (hi:U32 id):
  Calls Tryz.prog 45 #[.pointer (some ⟨r,0,none⟩),.agg (W.vals (.slice A W.segs.length cp)).toArray,J id] w fun e w'=>
   e= .returned (.tuple #[I ((placeT id W.segs 0).exec s).1.1,I ((placeT id W.segs 0).exec s).1.2.1,.bool ((placeT id W.segs 0).exec s).1.2.2])∧RM w' K r m c ((placeT id W.segs 0).exec s).2∧Keeps K w w':=by
 obtain⟨segs,wt,wv,u0,u1,u2,u3,u4,u5⟩:=W;dsimp only at hsl hok hn ⊢;have hw0:(WrM.mk segs wt wv ⟨u0,u1,u2,u3,u4,u5⟩).vals (.slice A segs.length cp)=[.slice A segs.length cp,I wt,J wv,I u0,I u1,I u2,I u3,I u4,I u5]:=rfl;rw[hw0];clear hw0;have hlt:=h.lt;have hkw:Keeps K w (w.alloc (.cells #[.slice A segs.length cp,I wt,J wv,I u0,I u1,I u2,I u3,I u4,I u5] 46)):=(Keeps.refl _ _).alloc hlt _
 have hr1:RM (w.alloc (.cells #[.slice A segs.length cp,I wt,J wv,I u0,I u1,I u2,I u3,I u4,I u5] 46)) K r m c s:=h.alloc _;obtain⟨t,ht⟩:∃t,t=(placeT id segs 0).exec s:=⟨_,rfl⟩;rw[←ht];have Hsl:=hid hsl;have Hok:=hid hok;have Hlt:=hid hlt;have Hkw:=hid hkw;have Hr1:=hid hr1;have Ht:=hid ht;have Hi:=hid hi;clear hsl hok hlt hkw hr1 ht hi;clear h;refine calls_hide fun R' hR'=>?_
 go_enter Tryz.func45,Tryz.ntmps45
 go_wp2_with fail
 go_loopw[15] (fun iv wx=>∃(i:Nat) (s':St),iv=I (i:Int)∧i≤segs.length∧Hid (t=(placeT id (segs.drop i) i).exec s')∧Hid (RM wx K r m c s')∧Hid (Keeps K w wx)) (fun iv _=>segs.length-(intOf iv).toNat)
 case atStart=>exact⟨0,s,rfl,Nat.zero_le _,Ht,Hr1,Hkw⟩
 case round=>
  obtain⟨i,s',rfl,hile,HT,HR,HK⟩:=hrel
  by_cases hil:i<segs.length
  ·have hilI:(i:Int)<(segs.length:Int):=by omega
   obtain⟨x,hx⟩:∃x,segs[i]? =some x:=⟨_,List.getElem?_eq_getElem hil⟩;obtain⟨b0,o0,rfl,hkb,g1⟩:=SlAt.rec (SegM.len3 segs) Hsl.out i x hx;obtain⟨⟨x0,x1⟩,x2⟩:=Hok.out x (List.mem_of_getElem? hx);have hh0:=Hlt.out _ hkb;have hst:t=if 0≤((findT x.base id x.docs 0).exec s').1 then(((i:Int),((findT x.base id x.docs 0).exec s').1,true),((findT x.base id x.docs 0).exec s').2)else(placeT id (segs.drop (i+1)) (i+1)).exec ((findT x.base id x.docs 0).exec s').2:=by
    obtain⟨h9,h8⟩:=List.getElem?_eq_some_iff.1 hx;rw[HT.out,List.drop_eq_getElem_cons h9,h8,placeT_cons]
   have hfr:=findT_range x.base id x.docs 0 s';have hbs:=Small.base ⟨x0,x1⟩;have zz117:=@c588;exact c587
  ·obtain rfl:i=segs.length:=by omega
   have hilI:¬(segs.length:Int)<(segs.length:Int):=by omega
   have hres:t=((0,0,false),s'):=by rw[HT.out,List.drop_length];rfl
   clear HT;have Hres:=hid hres;clear hres
   go_wp2_with fail
   exact hR'.out _ _ ⟨by first|(rw[Hres.out];done)|(rw[Hres.out];rfl),by rw[Hres.out];exact HR.out,HK.out⟩
end Go.Proofs.YtogdknnkhkjmcaaGreatDoor
