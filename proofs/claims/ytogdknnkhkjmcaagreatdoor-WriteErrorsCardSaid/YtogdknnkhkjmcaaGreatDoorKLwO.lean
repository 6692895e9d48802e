/- Lemmas on the programs that the statement reaches. -/
import Derived.Test.YtogdknnkhkjmcaaGreatDoorKLwE1
namespace Go.Proofs.YtogdknnkhkjmcaaGreatDoor
open Go.RowKit
set_option linter.all false
section
variable {H:Type}{enc:TypeId×Value→H}{P:Program}{w:World}{base:Nat}{sp:Nat→Bool}{held:Bool}
theorem trod_parts {fuel:Nat}{t:TypeId}{fs:Array Field}{cs:List Value}{ds:List (DataW H)}{p:List MemPlace}(ht:P.underlying t=some (.struct fs))(h:DataW.trod enc P w base sp held fuel t cs=some (.agg ds,p)):
  cs.length=P.cellsOf t∧ds.length=fs.size∧∃fuel',∀(i:Nat) f d,fs.toList[i]? =some f→ds[i]? =some d→∃q,DataW.trod enc P w base sp held fuel' f.type ((cs.drop f.offset).take (P.cellsOf f.type))=some (d,q):=by
 cases fuel with
 |zero=>simp[DataW.trod]at h
 |succ fuel=>
  simp only[DataW.trod,ht]at h
  split at h
  ·rename_i hl
   obtain⟨xs,hm,hx⟩:=Option.map_eq_some_iff.1 h;have hxs:xs.map (·.1)=ds:=by have:=congrArg Prod.fst hx;simpa using this
   refine⟨hl,?_,fuel,fun i f d hf hd=>?_⟩
   ·rw[←hxs,List.length_map,Lib.mapM_length hm,Array.length_toList]
   ·obtain⟨b,hb,hfb⟩:=Lib.mapM_at hm i f hf;rw[←hxs,List.getElem?_map,hb]at hd;simp only[Option.map_some,Option.some.injEq]at hd;subst hd;exact⟨_,hfb⟩
  ·cases h
theorem cells_of_arr {α:Type}{f:α→DataW H}{g:α→List Value}{fuel:Nat}{t e:TypeId}{n m:Nat}{cs:List Value}{xs:List α}{p:List MemPlace}(ht:P.underlying t=some (.array n e))(hce:P.cellsOf e=m)(hct:P.cellsOf t=n*m)(hm0:0<m)
  (hel:∀fuel cs x p,DataW.trod enc P w base sp held fuel e cs=some (f x,p)→cs=g x) (hg:∀x,(g x).length=m)
  (h:DataW.trod enc P w base sp held fuel t cs=some (.agg (xs.map f),p)):cs=xs.flatMap g:=by
 cases fuel with
 |zero=>simp[DataW.trod]at h
 |succ fuel=>
  simp only[DataW.trod,ht,hce,hct]at h
  split at h
  ·rename_i hl
   obtain⟨ys,hm,hx⟩:=Option.map_eq_some_iff.1 h;have hxs:ys.map (·.1)=xs.map f:=by have:=congrArg Prod.fst hx;simpa using this
   have hxl:ys.length=n:=by simpa using Lib.mapM_length hm
   have hzl:xs.length=n:=by have:=congrArg List.length hxs;simp at this;omega
   have key:∀(i:Nat) x,xs[i]? =some x→(cs.drop (i*m)).take m=g x:=by
    intro i x hi;have hlt:=(List.getElem?_eq_some_iff.1 hi).1;obtain⟨b,hb,hf⟩:=Lib.mapM_at hm i i (by rw[List.getElem?_range (by omega)])
    have h2:(ys.map (·.1))[i]? =some (f x):=by rw[hxs,List.getElem?_map,hi];rfl
    rw[List.getElem?_map,hb]at h2;simp only[Option.map_some,Option.some.injEq]at h2;exact hel fuel _ x b.2 (by rw[hf,←h2])
   clear h hx hxs hm hxl hct ht;subst hzl
   induction xs generalizing cs with
   |nil=>simp at hl;simp[hl]
   |cons x xs ih=>
    have h0:=key 0 x rfl;rw[Nat.zero_mul,List.drop_zero]at h0;have h1:=ih (cs:=cs.drop m) (fun i y hy=>by
     have:=key (i+1) y hy;rw[Nat.succ_mul,Nat.add_comm,←List.drop_drop]at this;exact this) (by rw[List.length_drop,hl,List.length_cons,Nat.succ_mul];omega)
    rw[List.flatMap_cons,←h0,←h1,List.take_append_drop]
  ·cases h
end
section
variable {H:Type}{enc:TypeId×Value→H}{w:World}{base:Nat}{sp:Nat→Bool}{held:Bool}
set_option maxRecDepth 100000 in
theorem span_cells {fuel:Nat}{cs:List Value}{a:Int×Int}{p:List MemPlace}(h:DataW.trod enc Tryz.prog w base sp held fuel 193 cs=some (.agg [.lit (.int .i32 a.1),.lit (.int .i32 a.2)],p)):cs=[.int .i32 a.1,.int .i32 a.2]:=by
 obtain⟨hl,_,fuel',hp⟩:=trod_parts Tryz.underlying193 h;have hl:cs.length=2:=hl.trans (by kernel_rfl)
 match cs,hl with
 | [x,y],_=>
  obtain⟨_,h0⟩:=hp 0 _ _ rfl rfl;obtain⟨_,h1⟩:=hp 1 _ _ rfl rfl;obtain⟨z0,e0,d0,_⟩:=DataW.trod_int Tryz.underlying21 h0;obtain⟨z1,e1,d1,_⟩:=DataW.trod_int Tryz.underlying21 h1;simp only[Prod.mk.injEq,DataW.lit.injEq,Lit.int.injEq,true_and]at d0 d1;obtain⟨rfl,_⟩:=d0;obtain⟨rfl,_⟩:=d1;have e0:[x]=[Value.int .i32 a.1]:=e0;have e1:[y]=[Value.int .i32 a.2]:=e1
  injection e0 with e0
  injection e1 with e1
  rw[e0,e1]
set_option maxRecDepth 100000 in
theorem move_cells {fuel:Nat}{cs:List Value}{a:Int×Int×Int×Int}{p:List MemPlace}(h:DataW.trod enc Tryz.prog w base sp held fuel 197 cs=some (.agg [.agg [.lit (.int .i32 a.1),.lit (.int .i32 a.2.1)],.lit (.int .i64 a.2.2.1),.lit (.int .i32 a.2.2.2)],p)):cs=[.int .i32 a.1,.int .i32 a.2.1,.int .i64 a.2.2.1,.int .i32 a.2.2.2]:=by
 obtain⟨hl,_,fuel',hp⟩:=trod_parts Tryz.underlying197 h;have hl:cs.length=4:=hl.trans (by kernel_rfl)
 match cs,hl with
 | [x,y,z,u],_=>
  obtain⟨_,h0⟩:=hp 0 _ _ rfl rfl;obtain⟨_,h1⟩:=hp 1 _ _ rfl rfl;obtain⟨_,h2⟩:=hp 2 _ _ rfl rfl;have e0:=span_cells (a:=(a.1,a.2.1)) h0;obtain⟨z1,e1,d1,_⟩:=DataW.trod_int Tryz.underlying3 h1;obtain⟨z2,e2,d2,_⟩:=DataW.trod_int Tryz.underlying21 h2;simp only[Prod.mk.injEq,DataW.lit.injEq,Lit.int.injEq,true_and]at d1 d2;obtain⟨rfl,_⟩:=d1;obtain⟨rfl,_⟩:=d2;have e0:[x,y]=[Value.int .i32 a.1,Value.int .i32 a.2.1]:=e0
  have e1:[z]=[Value.int .i64 a.2.2.1]:=e1;have e2:[u]=[Value.int .i32 a.2.2.2]:=e2;simp only[List.cons.injEq,and_true]at e0 e1 e2;rw[e0.1,e0.2,e1,e2]
end
theorem var_rangeAt {P:Program}{W:World}{name:String}{g:Nat}{cs:Array Value}(hg:P.globalNamed name=some g)(h:W.var? P name=some cs):W.rangeAt g 0 cs.toList∧(0<cs.size→g<W.heap.size):=by
 constructor
 ·intro j v hv;have hj:=(List.getElem?_eq_some_iff.1 hv).1;have:=World.var?_cell hg h j;rw[Nat.zero_add,this]
  simpa using hv
 ·intro h0;have:=World.var?_cell hg h 0;rw[Array.getElem?_eq_getElem h0]at this
  apply Decidable.byContradiction
  intro hn
  simp[World.cell?,Array.getElem?_eq_none (by omega:W.heap.size≤g)]at this
theorem laid_mem {P:Program}{W:World}{n:String}{d:DataW Unit}:∀{l:List (String×DataW Unit)} {ps:List MemPlace},DataW.LaidVars P W l ps→(n,d)∈l→
  ∃g t cs fuel p,P.globalNamed n=some g∧(P.globals[g]?).map (·.type)=some t∧W.var? P n=some cs∧DataW.trod (fun _=>()) P W 0 (fun _=>true) false fuel t cs.toList=some (d,p)
 | [],_,_,hm=>by cases hm
 |(n',d')::r,ps,h,hm=>by
  obtain⟨g,t,cs,fuel,p,q,h1,h2,h3,h4,h5,_⟩:=h
  rcases List.mem_cons.1 hm with e|hm
  ·injection e with e1 e2
   subst e1 e2;exact⟨g,t,cs,fuel,p,h1,h2,h3,h4⟩
  ·exact laid_mem h5 hm
def spanD (a:Int×Int):DataW Unit:= .agg [.lit (.int .i32 a.1),.lit (.int .i32 a.2)]
def moveD (a:Int×Int×Int×Int):DataW Unit:= .agg [.agg [.lit (.int .i32 a.1),.lit (.int .i32 a.2.1)],.lit (.int .i64 a.2.2.1),.lit (.int .i32 a.2.2.2)]
set_option maxRecDepth 100000 in
theorem foldTab_of {W : World} {l : List (String × DataW Unit)} (h : laidMet Tryz.prog l W) (m1 : ("plover/fold.letters", Rows.laid_plover_fold_letters) ∈ l) (m2 : ("plover/fold.high", Rows.laid_plover_fold_high) ∈ l) (m3 : ("plover/fold.moves", Rows.laid_plover_fold_moves) ∈ l) : FoldTab W := by
 obtain ⟨ps, hv, _⟩ := h;obtain ⟨g1, t1, cs1, fu1, p1, a1, b1, c1, d1⟩ := laid_mem hv m1;obtain ⟨g2, t2, cs2, fu2, p2, a2, b2, c2, d2⟩ := laid_mem hv m2;obtain ⟨g3, t3, cs3, fu3, p3, a3, b3, c3, d3⟩ := laid_mem hv m3;obtain rfl : 2 = g1 := Option.some.inj ((show Tryz.prog.globalNamed "plover/fold.letters" = some 2 by kernel_rfl).symm.trans a1)
 obtain rfl : 1 = g2 := Option.some.inj ((show Tryz.prog.globalNamed "plover/fold.high" = some 1 by kernel_rfl).symm.trans a2)
 obtain rfl : 3 = g3 := Option.some.inj ((show Tryz.prog.globalNamed "plover/fold.moves" = some 3 by kernel_rfl).symm.trans a3)
 obtain rfl:195=t1:=Option.some.inj ((show(Tryz.prog.globals[2]?).map (·.type)=some 195 by kernel_rfl).symm.trans b1)
 obtain rfl:194=t2:=Option.some.inj ((show(Tryz.prog.globals[1]?).map (·.type)=some 194 by kernel_rfl).symm.trans b2)
 obtain rfl:198=t3:=Option.some.inj ((show(Tryz.prog.globals[3]?).map (·.type)=some 198 by kernel_rfl).symm.trans b3)
 have e1:cs1.toList=spanC lettersP:=cells_of_arr (f:=spanD) (g:=fun p:Int×Int=>[.int .i32 p.1,.int .i32 p.2]) (xs:=lettersP) Tryz.underlying195 (m:=2) (by kernel_rfl) (by kernel_rfl) (by decide) (fun _ _ x _ hx=>span_cells (a:=x) hx) (fun _=>rfl) d1
 have e2:cs2.toList=spanC highP:=cells_of_arr (f:=spanD) (g:=fun p:Int×Int=>[.int .i32 p.1,.int .i32 p.2]) (xs:=highP) Tryz.underlying194 (m:=2) (by kernel_rfl) (by kernel_rfl) (by decide) (fun _ _ x _ hx=>span_cells (a:=x) hx) (fun _=>rfl) d2
 have e3:cs3.toList=moveC movesP:=cells_of_arr (f:=moveD) (g:=fun p:Int×Int×Int×Int=>[.int .i32 p.1,.int .i32 p.2.1,.int .i64 p.2.2.1,.int .i32 p.2.2.2]) (xs:=movesP) Tryz.underlying198 (m:=4) (by kernel_rfl) (by kernel_rfl) (by decide) (fun _ _ x _ hx=>move_cells (a:=x) hx) (fun _=>rfl) d3
 obtain⟨r1,s1⟩:=var_rangeAt a1 c1;obtain⟨r2,s2⟩:=var_rangeAt a2 c2;obtain⟨r3,s3⟩:=var_rangeAt a3 c3;rw[e1]at r1;rw[e2]at r2;rw[e3]at r3;have n1:0<cs1.size:=by rw[←Array.length_toList,e1];decide
 have n2:0<cs2.size:=by rw[←Array.length_toList,e2];decide
 have n3:0<cs3.size:=by rw[←Array.length_toList,e3];decide
 exact⟨r2,r1,r3,s2 n2,s1 n1,s3 n3⟩
def layO (xs:Array Value):Obj→Obj
 | .cells _ t frozen=> .cells xs t frozen
 |o=>o
noncomputable def laidWorld (os:Os):World:=
 { World.holding Tryz.prog os ⟨#[],#[],[]⟩with heap:=(((World.holding Tryz.prog os ⟨#[],#[],[]⟩).heap.modify 1 (layO (spanC highP).toArray)).modify 2 (layO (spanC lettersP).toArray)).modify 3 (layO (moveC movesP).toArray) }
end Go.Proofs.YtogdknnkhkjmcaaGreatDoor
namespace Go.Proofs.YtogdknnkhkjmcaaGreatDoor
open Go.RowKit Go.ChangeShapes Go.WideShapes Go.Deep
set_option linter.all false
set_option maxRecDepth 100000
section
variable {H:Type}{enc:TypeId×Value→H}{w:World}
end
section
variable {H:Type}{enc:TypeId×Value→H}{w:World}
end
theorem pTab_of {W : World} {l : List (String × DataW Unit)} (h : laidMet Tryz.prog l W) (m1 : ("plover/pool.sizes", Rows.laid_plover_pool_sizes) ∈ l) : PTab W := by
 obtain ⟨ps, hv, _⟩ := h;obtain ⟨g1, t1, cs1, fu1, p1, a1, b1, c1, d1⟩ := laid_mem hv m1;obtain rfl : 0 = g1 := Option.some.inj ((show Tryz.prog.globalNamed "plover/pool.sizes" = some 0 by kernel_rfl).symm.trans a1)
 obtain rfl:22=t1:=Option.some.inj ((show(Tryz.prog.globals[0]?).map (·.type)=some 22 by kernel_rfl).symm.trans b1)
 have e1:cs1.toList=[4,16,64,256].map (Value.int .i64):=cells_of_arr (f:=fun a:Int=>DataW.lit (.int .i64 a)) (g:=fun a:Int=>[Value.int .i64 a]) (xs:=[4,16,64,256]) Tryz.underlying22 (m:=1) (by kernel_rfl) (by kernel_rfl) (by decide) (fun _ _ x _ hx=>by
  obtain⟨z0,u0,v0,_⟩:=DataW.trod_int Tryz.underlying3 hx;injection v0 with v0 _
  injection v0 with v0
  injection v0 with _ v0
  rw[u0,v0]) (fun _=>rfl) d1
 obtain⟨r1,s1⟩:=var_rangeAt a1 c1;rw[e1]at r1;have n1:0<cs1.size:=by rw[←Array.length_toList,e1];decide
 exact⟨r1 0 _ rfl,r1 1 _ rfl,r1 2 _ rfl,r1 3 _ rfl,s1 n1⟩
noncomputable def laidWorld12 (os:Os):World:=
 { laidWorld os with heap:=(laidWorld os).heap.modify 0 (layO #[.int .i64 4,.int .i64 16,.int .i64 64,.int .i64 256]) }
end Go.Proofs.YtogdknnkhkjmcaaGreatDoor
