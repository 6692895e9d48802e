/- The tables of layer 5 out of a row's condition. -/
import Derived.Test.YtogdknnkhkjmcaaGreatDoorJLwI
namespace Go.Proofs.YtogdknnkhkjmcaaGreatDoor
open Go.RowKit
set_option linter.all false
section
variable {H:Type}{enc:TypeId×Value→H}{P:Program}{w:World}{base:Nat}{sp:Nat→Bool}{held:Bool}
theorem trod_parts {fuel:Nat}{t:TypeId}{fs:Array Field}{cs:List Value}{ds:List (DataW H)}{p:List MemPlace}(ht:P.underlying t=some (.struct fs))(h:DataW.trod enc P w base sp held fuel t cs=some (.agg ds,p)):
  cs.length=P.cellsOf t∧ds.length=fs.size∧∃fuel',∀(i:Nat) f d,fs.toList[i]? =some f→ds[i]? =some d→∃q,DataW.trod enc P w base sp held fuel' f.type ((cs.drop f.offset).take (P.cellsOf f.type))=some (d,q):=by
 cases fuel with
 |zero=>simp[DataW.trod]at h
 |succ fuel=>
  simp only[DataW.trod,ht]at h
  split at h
  ·rename_i hl
   obtain⟨xs,hm,hx⟩:=Option.map_eq_some_iff.1 h;have hxs:xs.map (·.1)=ds:=by have:=congrArg Prod.fst hx;simpa using this
   refine⟨hl,?_,fuel,fun i f d hf hd=>?_⟩
   ·rw[←hxs,List.length_map,Lib.mapM_length hm,Array.length_toList]
   ·obtain⟨b,hb,hfb⟩:=Lib.mapM_at hm i f hf;rw[←hxs,List.getElem?_map,hb]at hd;simp only[Option.map_some,Option.some.injEq]at hd;subst hd;exact⟨_,hfb⟩
  ·cases h
theorem cells_of_arr {α:Type}{f:α→DataW H}{g:α→List Value}{fuel:Nat}{t e:TypeId}{n m:Nat}{cs:List Value}{xs:List α}{p:List MemPlace}(ht:P.underlying t=some (.array n e))(hce:P.cellsOf e=m)(hct:P.cellsOf t=n*m)(hm0:0<m)
  (hel:∀fuel cs x p,DataW.trod enc P w base sp held fuel e cs=some (f x,p)→cs=g x) (hg:∀x,(g x).length=m)
  (h:DataW.trod enc P w base sp held fuel t cs=some (.agg (xs.map f),p)):cs=xs.flatMap g:=by
 cases fuel with
 |zero=>simp[DataW.trod]at h
 |succ fuel=>
  simp only[DataW.trod,ht,hce,hct]at h
  split at h
  ·rename_i hl
   obtain⟨ys,hm,hx⟩:=Option.map_eq_some_iff.1 h;have hxs:ys.map (·.1)=xs.map f:=by have:=congrArg Prod.fst hx;simpa using this
   have hxl:ys.length=n:=by simpa using Lib.mapM_length hm
   have hzl:xs.length=n:=by have:=congrArg List.length hxs;simp at this;omega
   have key:∀(i:Nat) x,xs[i]? =some x→(cs.drop (i*m)).take m=g x:=by
    intro i x hi;have hlt:=(List.getElem?_eq_some_iff.1 hi).1;obtain⟨b,hb,hf⟩:=Lib.mapM_at hm i i (by rw[List.getElem?_range (by omega)])
    have h2:(ys.map (·.1))[i]? =some (f x):=by rw[hxs,List.getElem?_map,hi];rfl
    rw[List.getElem?_map,hb]at h2;simp only[Option.map_some,Option.some.injEq]at h2;exact hel fuel _ x b.2 (by rw[hf,←h2])
   clear h hx hxs hm hxl hct ht;subst hzl
   induction xs generalizing cs with
   |nil=>simp at hl;simp[hl]
   |cons x xs ih=>
    have h0:=key 0 x rfl;rw[Nat.zero_mul,List.drop_zero]at h0;have h1:=ih (cs:=cs.drop m) (fun i y hy=>by
     have:=key (i+1) y hy;rw[Nat.succ_mul,Nat.add_comm,←List.drop_drop]at this;exact this) (by rw[List.length_drop,hl,List.length_cons,Nat.succ_mul];omega)
    rw[List.flatMap_cons,←h0,←h1,List.take_append_drop]
  ·cases h
end
section
variable {H:Type}{enc:TypeId×Value→H}{w:World}{base:Nat}{sp:Nat→Bool}{held:Bool}
set_option maxRecDepth 100000 in
theorem span_cells {fuel:Nat}{cs:List Value}{a:Int×Int}{p:List MemPlace}(h:DataW.trod enc Tryz.prog w base sp held fuel 193 cs=some (.agg [.lit (.int .i32 a.1),.lit (.int .i32 a.2)],p)):cs=[.int .i32 a.1,.int .i32 a.2]:=by
 obtain⟨hl,_,fuel',hp⟩:=trod_parts Tryz.underlying193 h;have hl:cs.length=2:=hl.trans (by kernel_rfl)
 match cs,hl with
 | [x,y],_=>
  obtain⟨_,h0⟩:=hp 0 _ _ rfl rfl;obtain⟨_,h1⟩:=hp 1 _ _ rfl rfl;obtain⟨z0,e0,d0,_⟩:=DataW.trod_int Tryz.underlying21 h0;obtain⟨z1,e1,d1,_⟩:=DataW.trod_int Tryz.underlying21 h1;simp only[Prod.mk.injEq,DataW.lit.injEq,Lit.int.injEq,true_and]at d0 d1;obtain⟨rfl,_⟩:=d0;obtain⟨rfl,_⟩:=d1;have e0:[x]=[Value.int .i32 a.1]:=e0;have e1:[y]=[Value.int .i32 a.2]:=e1
  injection e0 with e0
  injection e1 with e1
  rw[e0,e1]
set_option maxRecDepth 100000 in
theorem move_cells {fuel:Nat}{cs:List Value}{a:Int×Int×Int×Int}{p:List MemPlace}(h:DataW.trod enc Tryz.prog w base sp held fuel 197 cs=some (.agg [.agg [.lit (.int .i32 a.1),.lit (.int .i32 a.2.1)],.lit (I a.2.2.1),.lit (.int .i32 a.2.2.2)],p)):cs=[.int .i32 a.1,.int .i32 a.2.1,I a.2.2.1,.int .i32 a.2.2.2]:=by
 obtain⟨hl,_,fuel',hp⟩:=trod_parts Tryz.underlying197 h;have hl:cs.length=4:=hl.trans (by kernel_rfl)
 match cs,hl with
 | [x,y,z,u],_=>
  obtain⟨_,h0⟩:=hp 0 _ _ rfl rfl;obtain⟨_,h1⟩:=hp 1 _ _ rfl rfl;obtain⟨_,h2⟩:=hp 2 _ _ rfl rfl;have e0:=span_cells (a:=(a.1,a.2.1)) h0;obtain⟨z1,e1,d1,_⟩:=DataW.trod_int Tryz.underlying3 h1;obtain⟨z2,e2,d2,_⟩:=DataW.trod_int Tryz.underlying21 h2;simp only[Prod.mk.injEq,DataW.lit.injEq,Lit.int.injEq,true_and]at d1 d2;obtain⟨rfl,_⟩:=d1;obtain⟨rfl,_⟩:=d2;have e0:[x,y]=[Value.int .i32 a.1,Value.int .i32 a.2.1]:=e0
  have e1:[z]=[I a.2.2.1]:=e1;have e2:[u]=[Value.int .i32 a.2.2.2]:=e2;simp only[List.cons.injEq,and_true]at e0 e1 e2;rw[e0.1,e0.2,e1,e2]
end
theorem var_rangeAt {P:Program}{W:World}{name:String}{g:Nat}{cs:Array Value}(hg:P.globalNamed name=some g)(h:W.var? P name=some cs):W.rangeAt g 0 cs.toList∧(0<cs.size→g<W.heap.size):=by
 constructor
 ·intro j v hv;have hj:=(List.getElem?_eq_some_iff.1 hv).1;have:=World.var?_cell hg h j;rw[Nat.zero_add,this]
  simpa using hv
 ·intro h0;have:=World.var?_cell hg h 0;rw[Array.getElem?_eq_getElem h0]at this
  apply Decidable.byContradiction
  intro hn
  simp[World.cell?,Array.getElem?_eq_none (by omega:W.heap.size≤g)]at this
theorem laid_mem {P:Program}{W:World}{n:String}{d:DataW Unit}:∀{l:List (String×DataW Unit)} {ps:List MemPlace},DataW.LaidVars P W l ps→(n,d)∈l→
  ∃g t cs fuel p,P.globalNamed n=some g∧(P.globals[g]?).map (·.type)=some t∧W.var? P n=some cs∧DataW.trod (fun _=>()) P W 0 (fun _=>true) false fuel t cs.toList=some (d,p)
 | [],_,_,hm=>by cases hm
 |(n',d')::r,ps,h,hm=>by
  obtain⟨g,t,cs,fuel,p,q,h1,h2,h3,h4,h5,_⟩:=h
  rcases List.mem_cons.1 hm with e|hm
  ·injection e with e1 e2
   subst e1 e2;exact⟨g,t,cs,fuel,p,h1,h2,h3,h4⟩
  ·exact laid_mem h5 hm
def spanD (a:Int×Int):DataW Unit:= .agg [.lit (.int .i32 a.1),.lit (.int .i32 a.2)]
def moveD (a:Int×Int×Int×Int):DataW Unit:= .agg [.agg [.lit (.int .i32 a.1),.lit (.int .i32 a.2.1)],.lit (.int .i64 a.2.2.1),.lit (.int .i32 a.2.2.2)]
set_option maxRecDepth 100000 in
theorem foldTab_of {W : World} {l : List (String × DataW Unit)} (h : laidMet Tryz.prog l W) (m1 : ("plover/fold.letters", Rows.laid_plover_fold_letters) ∈ l) (m2 : ("plover/fold.high", Rows.laid_plover_fold_high) ∈ l) (m3 : ("plover/fold.moves", Rows.laid_plover_fold_moves) ∈ l) : FoldTab W := by
 obtain ⟨ps, hv, _⟩ := h;obtain ⟨g1, t1, cs1, fu1, p1, a1, b1, c1, d1⟩ := laid_mem hv m1;obtain ⟨g2, t2, cs2, fu2, p2, a2, b2, c2, d2⟩ := laid_mem hv m2;obtain ⟨g3, t3, cs3, fu3, p3, a3, b3, c3, d3⟩ := laid_mem hv m3;obtain rfl : 2 = g1 := Option.some.inj ((show Tryz.prog.globalNamed "plover/fold.letters" = some 2 by kernel_rfl).symm.trans a1)
 obtain rfl : 1 = g2 := Option.some.inj ((show Tryz.prog.globalNamed "plover/fold.high" = some 1 by kernel_rfl).symm.trans a2)
 obtain rfl : 3 = g3 := Option.some.inj ((show Tryz.prog.globalNamed "plover/fold.moves" = some 3 by kernel_rfl).symm.trans a3)
 obtain rfl:195=t1:=Option.some.inj ((show(Tryz.prog.globals[2]?).map (·.type)=some 195 by kernel_rfl).symm.trans b1)
 obtain rfl:194=t2:=Option.some.inj ((show(Tryz.prog.globals[1]?).map (·.type)=some 194 by kernel_rfl).symm.trans b2)
 obtain rfl:198=t3:=Option.some.inj ((show(Tryz.prog.globals[3]?).map (·.type)=some 198 by kernel_rfl).symm.trans b3)
 have e1:cs1.toList=spanC lettersP:=cells_of_arr (f:=spanD) (g:=fun p:Int×Int=>[.int .i32 p.1,.int .i32 p.2]) (xs:=lettersP) Tryz.underlying195 (m:=2) (by kernel_rfl) (by kernel_rfl) (by decide) (fun _ _ x _ hx=>span_cells (a:=x) hx) (fun _=>rfl) d1
 have e2:cs2.toList=spanC highP:=cells_of_arr (f:=spanD) (g:=fun p:Int×Int=>[.int .i32 p.1,.int .i32 p.2]) (xs:=highP) Tryz.underlying194 (m:=2) (by kernel_rfl) (by kernel_rfl) (by decide) (fun _ _ x _ hx=>span_cells (a:=x) hx) (fun _=>rfl) d2
 have e3:cs3.toList=moveC movesP:=cells_of_arr (f:=moveD) (g:=fun p:Int×Int×Int×Int=>[.int .i32 p.1,.int .i32 p.2.1,I p.2.2.1,.int .i32 p.2.2.2]) (xs:=movesP) Tryz.underlying198 (m:=4) (by kernel_rfl) (by kernel_rfl) (by decide) (fun _ _ x _ hx=>move_cells (a:=x) hx) (fun _=>rfl) d3
 obtain⟨r1,s1⟩:=var_rangeAt a1 c1;obtain⟨r2,s2⟩:=var_rangeAt a2 c2;obtain⟨r3,s3⟩:=var_rangeAt a3 c3;rw[e1]at r1;rw[e2]at r2;rw[e3]at r3;have n1:0<cs1.size:=by rw[←Array.length_toList,e1];decide
 have n2:0<cs2.size:=by rw[←Array.length_toList,e2];decide
 have n3:0<cs3.size:=by rw[←Array.length_toList,e3];decide
 exact⟨r2,r1,r3,s2 n2,s1 n1,s3 n3⟩
def layO (xs:Array Value):Obj→Obj
 | .cells _ t frozen=> .cells xs t frozen
 |o=>o
noncomputable def laidWorld (os:Os):World:=
 { World.holding Tryz.prog os ⟨#[],#[],[]⟩with heap:=(((World.holding Tryz.prog os ⟨#[],#[],[]⟩).heap.modify 1 (layO (spanC highP).toArray)).modify 2 (layO (spanC lettersP).toArray)).modify 3 (layO (moveC movesP).toArray) }
end Go.Proofs.YtogdknnkhkjmcaaGreatDoor
namespace Go.Proofs.YtogdknnkhkjmcaaGreatDoor
open Go.RowKit Go.ChangeShapes Go.WideShapes Go.Deep
set_option linter.all false
set_option maxRecDepth 100000
theorem Tryz.cellsC:Tryz.prog.cellsOf 3=1:=by kernel_rfl
theorem Tryz.cellsA4:Tryz.prog.cellsOf 22=4:=by kernel_rfl
theorem Tryz.cellsConf:Tryz.prog.cellsOf 25=10:=by kernel_rfl
section
variable {H:Type}{enc:TypeId×Value→H}{w:World}
theorem open_conf {v:Value}{d:DataW H}{p:List MemPlace}{r:Reach}{b0:Nat}(hv:Value.okWide Tryz.prog w r b0 25 v)
  (h:DataW.Trod enc Tryz.prog w 0 (fun _=>true) true 25 v d p):∃c:ConfM,v= .agg c.list.toArray:=by
 obtain ⟨cs, rfl, hsz⟩ := okWide_struct Tryz.underlying25 hv;rw [Tryz.cellsConf] at hsz;obtain ⟨fuel, h⟩ := h;obtain ⟨xs, n, _, _, hl, hlen, hf⟩ := DataW.trod_struct Tryz.underlying25 h;have f0 := hf 0 (Field.mk "Docs" 3 0 false "" "" 0) rfl;have f1 := hf 1 (Field.mk "Terms" 3 1 false "" "" 8) rfl;have f2 := hf 2 (Field.mk "Slabs" 22 2 false "" "" 16) rfl;have f3 := hf 3 (Field.mk "Book" 3 6 false "" "" 48) rfl
 have f4 := hf 4 (Field.mk "Room" 3 7 false "" "" 56) rfl;have hx : ∀ i, i < 7 → ∃ y, xs[i]? = some y := fun i hi => ⟨_, List.getElem?_eq_getElem (by rw [hlen]; exact hi)⟩
 obtain⟨y0,e0⟩:=hx 0 (by decide)
 obtain⟨y1,e1⟩:=hx 1 (by decide)
 obtain⟨y2,e2⟩:=hx 2 (by decide)
 obtain⟨y3,e3⟩:=hx 3 (by decide)
 obtain⟨y4,e4⟩:=hx 4 (by decide)
 rw[e0]at f0;rw[e1]at f1;rw[e2]at f2;rw[e3]at f3;rw[e4]at f4;have hcs:(Value.agg cs).cells.toList=cs.toList:=rfl;rw[hcs]at f0 f1 f2 f3 f4;obtain⟨l,hle⟩:∃l,l=cs.toList:=⟨_,rfl⟩;rw[←hle]at f0 f1 f2 f3 f4;have hl10:l.length=10:=by rw[hle];simpa using hsz
 obtain⟨c0,c1,c2,c3,c4,c5,c6,c7,c8,c9,hll⟩:∃c0 c1 c2 c3 c4 c5 c6 c7 c8 c9:Value,l=[c0,c1,c2,c3,c4,c5,c6,c7,c8,c9]:=by
  match l,hl10 with
  | [c0,c1,c2,c3,c4,c5,c6,c7,c8,c9],_=>exact⟨c0,c1,c2,c3,c4,c5,c6,c7,c8,c9,rfl⟩
 subst hll;simp only[Tryz.cellsC,Tryz.cellsA4,List.drop_zero,List.take_succ_cons,List.take_zero,List.drop_succ_cons]at f0 f1 f2 f3 f4;obtain⟨a0,g0,_,_⟩:=DataW.trod_int Tryz.underlying3 f0;obtain⟨a1,g1,_,_⟩:=DataW.trod_int Tryz.underlying3 f1;obtain⟨z0,z1,z2,z3,m,_,k0,k1,k2,k3⟩:=trod_array4 Tryz.underlying22 Tryz.cellsC f2;obtain⟨b0,h0,_,_⟩:=DataW.trod_int Tryz.underlying3 k0
 obtain⟨b1,h1,_,_⟩:=DataW.trod_int Tryz.underlying3 k1;obtain⟨b2,h2,_,_⟩:=DataW.trod_int Tryz.underlying3 k2;obtain⟨b3,h3,_,_⟩:=DataW.trod_int Tryz.underlying3 k3;obtain⟨a3,g3,_,_⟩:=DataW.trod_int Tryz.underlying3 f3;obtain⟨a4,g4,_,_⟩:=DataW.trod_int Tryz.underlying3 f4;simp only[List.cons.injEq,and_true]at g0 g1 g3 g4 h0 h1 h2 h3;subst g0 g1 g3 g4 h0 h1 h2 h3;refine⟨⟨a0,a1,b0,b1,b2,b3,a3,a4,c8,c9⟩,?_⟩
 congr 1
 apply Array.ext'
 rw[←hle];rfl
end
section
variable {H:Type}{enc:TypeId×Value→H}{w:World}
theorem weightsAll_mem2 {P:Program}{e:TypeId}:∀{l:List (DataW H)} {d:DataW H},d∈l→∀n∈d.weights P e,n∈DataW.weightsAll P e l
 |d'::r,d,hd,n,hn=>by
  simp only[DataW.weightsAll,List.mem_append]
  rcases List.mem_cons.1 hd with rfl|h
  ·exact Or.inl hn
  ·exact Or.inr (weightsAll_mem2 h n hn)
theorem open_slW {α:Type}(f:α→List Value)(size:Nat)(hs:0<size)(hf:∀x,(f x).length=size)(Q:α→DataW H→Prop){t e:TypeId}{cs0:List Value}{x0:DataW H×List MemPlace}{fuel:Nat}
  (ht:Tryz.prog.underlying t=some (.slice e)) (hC:Tryz.prog.cellsOf e=size)
  (h:DataW.trod enc Tryz.prog w 0 (fun _=>true) true fuel t cs0=some x0)
  (hrd:∀(n:Nat) (cs:List Value) (x:DataW H×List MemPlace),SizeOf.sizeOf x.1<SizeOf.sizeOf x0.1→cs.length=size→DataW.trod enc Tryz.prog w 0 (fun _=>true) true n e cs=some x→∃a:α,f a=cs∧Q a x.1):
  ∃(A:Option Addr) (cap:Nat) (l:List α),cs0=[.slice A l.length cap]∧(∀a∈l,∃D,Q a D∧∀n∈D.weights Tryz.prog e,n∈x0.1.weights Tryz.prog t)∧(l≠[]→∃n,l.length≤n∧n*Tryz.prog.bytesOf e∈x0.1.weights Tryz.prog t)∧SlAt w (· <w.heap.size) size (.slice A l.length cap) l.length (l.flatMap f):=by
 rcases open_slice ht h with⟨h0,_⟩|⟨a,len,cap,m,n,D,Pl,hcs,hb,hl,hm,hmm,hx,hi⟩
 ·exact⟨none,0,[],h0,fun a ha=>(by cases ha),fun h=>absurd rfl h,none,0,rfl,Nat.le_refl _,Nat.zero_le _,by simp,fun hn=>absurd hn (by simp)⟩
 ·simp only[if_true]at hmm;subst hmm;have hx1:x0.1= .slice ((List.range len).map D) ((List.range (m-len)).map fun j=>D (len+j)):=by rw[hx]
  have hmem:∀i,i<len→D i∈(List.range len).map D:=fun i hi=>List.mem_map.2 ⟨i,List.mem_range.2 hi,rfl⟩;have hwt:x0.1.weights Tryz.prog t=(((List.range len).map D).length+((List.range (m-len)).map fun j=>D (len+j)).length)*Tryz.prog.bytesOf e::(DataW.weightsAll Tryz.prog e ((List.range len).map D)++DataW.weightsAll Tryz.prog e ((List.range (m-len)).map fun j=>D (len+j))):=by
   rw[hx1];unfold DataW.weights;rw[ht]
  obtain⟨l,hl1,hl2⟩:=list_of (Q:=fun i x=>Q x (D i)∧∀j u,(f x)[j]? =some u→w.cell? ((a.add (i*size)).add j)=some u) len (fun i hi'=>by
   obtain⟨cs',hc,ht'⟩:=hi i (by omega)
   rw[hC]at hc;obtain⟨_,hcl,hat⟩:=World.cells?_some hc;obtain⟨x,hx1,hx2⟩:=hrd n cs' _ (by
    show SizeOf.sizeOf (D i)<_;have:=List.sizeOf_lt_of_mem (hmem i hi');rw[hx1];simp only[DataW.slice.sizeOf_spec]
    omega) hcl ht'
   refine⟨x,hx2,fun j u hj=>?_⟩;rw[hx1]at hj;have hjl:j<size:=by rw[←hcl];exact(List.getElem?_eq_some_iff.1 hj).1
   rw[hat j hjl,hj])
  refine⟨some a,m,l,by rw[hcs,hl1],fun x hx'=>?_,fun _=>⟨len+(m-len),by omega,?_⟩,some a,m,by rw[hl1],by rw[hl1];exact hl,hm,flat_len f size hf l,fun hn=>?_⟩
  ·obtain⟨i,hi',rfl⟩:=List.getElem_of_mem hx';refine⟨D i,(hl2 i _ (List.getElem?_eq_getElem hi')).1,fun n hn=>?_⟩;rw[hwt];exact List.mem_cons_of_mem _ (List.mem_append_left _ (weightsAll_mem2 (hmem i (by omega)) n hn))
  ·rw[hwt,List.length_map,List.length_map,List.length_range,List.length_range];exact List.mem_cons_self ..
  ·obtain⟨x0,hx0⟩:∃x,l[0]? =some x:=⟨_,List.getElem?_eq_getElem hn⟩;have hsp0:=(hl2 0 x0 hx0).2 0 ((f x0)[0]'(by rw[hf];exact hs)) (List.getElem?_eq_getElem _)
   have hadd:∀(a:Addr) (i j:Nat),(a.add i).add j=a.add (i+j):=fun a i j=>by
    unfold Addr.add
    by_cases hi:i=0<;>by_cases hj:j=0<;>simp[hi,hj,Nat.add_assoc]
   rw[hadd]at hsp0;have hspot:=World.cell?_spot hsp0;obtain⟨b,off,spot⟩:=a;have hspot:spot=none:=by simpa[Addr.add]using hspot
   subst hspot;refine⟨b,off,rfl,?_,fun j u hj=>?_⟩
   ·have:=World.block_lt_of_cell? _ _ hsp0
    simpa[Addr.add]using this
   ·obtain⟨x,hx1,hx2⟩:=flat_get f size hs hf l j u hj;have:=(hl2 _ x hx1).2 _ u hx2;rw[hadd,Nat.div_add_mod' j size]at this;rw[←this]
    simp[Addr.add]
    try(by_cases hj0:j=0<;>simp[hj0])
theorem Tryz.cellsOp:Tryz.prog.cellsOf 37=3:=by kernel_rfl
theorem Tryz.cellsStr:Tryz.prog.cellsOf 9=1:=by kernel_rfl
theorem strs_flat:∀l:List ByteArray,l.flatMap (fun x:ByteArray=>[Value.string x])=l.map Value.string
 | []=>rfl
 |x::l=>by rw[List.flatMap_cons,strs_flat l];rfl
theorem read_op (n:Nat)(cs:List Value)(x:DataW H×List MemPlace)(hl:cs.length=3)
  (h:DataW.trod enc Tryz.prog w 0 (fun _=>true) true n 37 cs=some x):∃o:OpV,o.cells=cs∧((∀m∈x.1.weights Tryz.prog 37,m≤140737488355328)→o.ok w (· <w.heap.size)):=by
 obtain⟨xs,n',_,hx,_,hlen,hf⟩:=DataW.trod_struct Tryz.underlying37 h
 match xs,hlen with
 | [y0,y1],_=>
 match cs,hl with
 | [b0,b1,b2],_=>
  have f0:DataW.trod enc Tryz.prog w 0 (fun _=>true) true n' 4 [b0]=some y0:=hf 0 _ rfl;have f1:DataW.trod enc Tryz.prog w 0 (fun _=>true) true n' 35 [b1,b2]=some y1:=hf 1 _ rfl;obtain⟨del,e0,_⟩:=DataW.trod_bool Tryz.underlying4 f0;obtain⟨zs,n'',_,hz,_,hzl,hg⟩:=DataW.trod_struct Tryz.underlying35 f1
  match zs,hzl with
  | [z0,z1],_=>
   have g0:DataW.trod enc Tryz.prog w 0 (fun _=>true) true n'' 32 [b1]=some z0:=hg 0 _ rfl;have g1:DataW.trod enc Tryz.prog w 0 (fun _=>true) true n'' 33 [b2]=some z1:=hg 1 _ rfl;obtain⟨id,e1,_,w1⟩:=DataW.trod_int Tryz.underlying32 g0;obtain⟨A,c,fs,e2,q2,_,s2⟩:=open_slW (fun x:ByteArray=>[Value.string x]) 1 (by decide) (fun _=>rfl) (fun a D=>D= .lit (.string a.data.toList)) Tryz.underlying33 Tryz.cellsStr g1 (fun n cs x _ hl hx=>by
    obtain⟨a,u1,u2,_⟩:=DataW.trod_string Tryz.underlying9 hx;exact⟨a,u1.symm,by rw[u2]⟩)
   rw[strs_flat]at s2;injection e0 with e0
   injection e1 with e1
   injection e2 with e2
   subst e0 e1 e2;refine⟨⟨del,id,A,c,fs⟩,rfl,fun hb=>⟨s2,bounds_u32 w1,fun a ha=>?_⟩⟩;obtain⟨D,rfl,hD⟩:=q2 a ha;refine hb _ ?_;have k1:a.size∈z1.1.weights Tryz.prog 33:=hD _ (by
    conv=>arg 1;unfold DataW.weights
    rw[List.mem_singleton];exact(Array.length_toList).symm)
   rw[hx]
   conv=>arg 1;unfold DataW.weights
   rw[Tryz.underlying37];show a.size∈DataW.weightsEach Tryz.prog [4,35] [y0.1,y1.1];simp only[DataW.weightsEach,List.mem_append];refine Or.inr (Or.inl ?_);rw[hz]
   conv=>arg 1;unfold DataW.weights
   rw[Tryz.underlying35];show a.size∈DataW.weightsEach Tryz.prog [32,33] [z0.1,z1.1];simp only[DataW.weightsEach,List.mem_append];exact Or.inr (Or.inl k1)
theorem open_ops {v:Value}{d:DataW H}{p:List MemPlace}{r:Reach}{b0:Nat}(hv:Value.okWide Tryz.prog w r b0 26 v)
  (h:DataW.Trod enc Tryz.prog w 0 (fun _=>true) true 26 v d p):
  ∃(A:Option Addr) (c:Nat) (ops:List OpV),v= .slice A ops.length c∧((∀m∈d.weights Tryz.prog 26,m≤140737488355328)→∀o∈ops,o.ok w (· <w.heap.size))∧SlAt w (· <w.heap.size) 3 (.slice A ops.length c) ops.length (ops.flatMap OpV.cells):=by
 obtain⟨a0,len,cap,rfl⟩:=okWide_slice Tryz.underlying26 hv;obtain⟨fuel,h⟩:=h;obtain⟨A,c,l,e1,q1,_,s1⟩:=open_slW OpV.cells 3 (by decide) (fun _=>rfl) (fun o D=>(∀m∈D.weights Tryz.prog 37,m≤140737488355328)→o.ok w (· <w.heap.size)) Tryz.underlying26 Tryz.cellsOp h (fun n cs x _ hl hx=>read_op n cs x hl hx)
 refine⟨A,c,l,?_,fun hb o ho=>?_,s1⟩
 ·injection e1
 ·obtain⟨D,h1,h2⟩:=q1 o ho;exact h1 fun m hm=>hb m (h2 m hm)
end
theorem pTab_of {W : World} {l : List (String × DataW Unit)} (h : laidMet Tryz.prog l W) (m1 : ("plover/pool.sizes", Rows.laid_plover_pool_sizes) ∈ l) : PTab W := by
 obtain ⟨ps, hv, _⟩ := h;obtain ⟨g1, t1, cs1, fu1, p1, a1, b1, c1, d1⟩ := laid_mem hv m1;obtain rfl : 0 = g1 := Option.some.inj ((show Tryz.prog.globalNamed "plover/pool.sizes" = some 0 by kernel_rfl).symm.trans a1)
 obtain rfl:22=t1:=Option.some.inj ((show(Tryz.prog.globals[0]?).map (·.type)=some 22 by kernel_rfl).symm.trans b1)
 have e1:cs1.toList=[4,16,64,256].map (Value.int .i64):=cells_of_arr (f:=fun a:Int=>DataW.lit (I a)) (g:=fun a:Int=>[I a]) (xs:=[4,16,64,256]) Tryz.underlying22 (m:=1) (by kernel_rfl) (by kernel_rfl) (by decide) (fun _ _ x _ hx=>by
  obtain⟨z0,u0,v0,_⟩:=DataW.trod_int Tryz.underlying3 hx;injection v0 with v0 _
  injection v0 with v0
  injection v0 with _ v0
  rw[u0,v0]) (fun _=>rfl) d1
 obtain⟨r1,s1⟩:=var_rangeAt a1 c1;rw[e1]at r1;have n1:0<cs1.size:=by rw[←Array.length_toList,e1];decide
 exact⟨r1 0 _ rfl,r1 1 _ rfl,r1 2 _ rfl,r1 3 _ rfl,s1 n1⟩
noncomputable def laidWorld12 (os:Os):World:=
 { laidWorld os with heap:=(laidWorld os).heap.modify 0 (layO #[.int .i64 4,.int .i64 16,.int .i64 64,.int .i64 256]) }
end Go.Proofs.YtogdknnkhkjmcaaGreatDoor
