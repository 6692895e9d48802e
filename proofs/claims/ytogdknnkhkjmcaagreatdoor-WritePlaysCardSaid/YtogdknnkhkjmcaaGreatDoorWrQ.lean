/- Layer 12 (write): what Add keeps; what its parts answer. -/
import Derived.Test.YtogdknnkhkjmcaaGreatDoorWrN
import Derived.Test.YtogdknnkhkjmcaaGreatDoorJWrD
namespace Go.Proofs.YtogdknnkhkjmcaaGreatDoor
open Go.RowKit
set_option linter.all false
theorem fitL_len (n:Nat):∀(rs:List Int) (acc:List UInt8),acc.length≤n→(fitL n acc rs).length≤n
 | [],acc,h=>h
 |r::rs,acc,h=>by
  rw[fitL_cons]
  split
  ·exact h
  ·exact fitL_len n rs _ (by rw[List.length_append];omega)
theorem fitS_size (n:Nat)(rs:List Int):(fitS n rs).size≤n:=by
 show(fitL n [] rs).toArray.size≤n;rw[List.size_toArray];exact fitL_len n rs [] (Nat.zero_le _)
theorem wordsL_size:∀(f p:Nat) (rs:List Int),∀y∈wordsL f p rs,y.1.size≤16
 |0,_,_,y,h=>by cases h
 |_+1,_,[],y,h=>by cases h
 |f+1,p,r::rs,y,h=>by
  unfold wordsL at h
  split at h
  ·split at h
   ·exact wordsL_size f _ _ y h
   ·rcases List.mem_cons.1 h with rfl|h
    ·exact fitS_size 16 _
    ·exact wordsL_size f _ _ y h
  ·exact wordsL_size f _ _ y h
structure A1 (w W:World)(K G:Nat→Prop)(r m c B:Nat)(cf:ConfM)(x:WrM)(v:Value)(dv:List Value)(s:St):Prop where
 rm:RM W G r m c s
 kp:Keeps K w W
 sub:∀b,K b→G b
 gb:∀b,B≤b→b<B+1+1+1+1→G b
 lt:∀b,K b→b<B
 b0:Blk W B cf.list
 b1:Blk W (B+1) (x.vals v)
 b2:Blk W (B+1+1) dv
 b3:Blk W (B+1+1+1) zer9
section
variable {w W W':World}{K G G':Nat→Prop}{r m c B:Nat}{cf:ConfM}{x:WrM}{v:Value}{dv:List Value}{s s':St}
theorem A1.grow (h:A1 w W K G r m c B cf x v dv s)(hG:∀b,G b→G' b)(h1:RM W' G' r m c s')(h2:Keeps G W W'):A1 w W' K G' r m c B cf x v dv s':=
 ⟨h1,h.kp.trans (h2.mono h.sub),fun b hb=>hG b (h.sub b hb),fun b h3 h4=>hG b (h.gb b h3 h4),h.lt,h.b0.keep h2 (h.gb _ (by omega) (by omega)),h.b1.keep h2 (h.gb _ (by omega) (by omega)),h.b2.keep h2 (h.gb _ (by omega) (by omega)),h.b3.keep h2 (h.gb _ (by omega) (by omega))⟩
theorem A1.keep (h:A1 w W K G r m c B cf x v dv s)(h1:RM W' G r m c s')(h2:Keeps G W W'):A1 w W' K G r m c B cf x v dv s':=h.grow (fun _ hb=>hb) h1 h2
theorem A1.below (h:A1 w W K G r m c B cf x v dv s)(h2:Keeps (· <W.heap.size) W W'):A1 w W' K G r m c B cf x v dv s:=h.keep (h.rm.below h2) (h2.mono h.rm.lt)
theorem A1.more (h:A1 w W K G r m c B cf x v dv s)(h2:Keeps (· <W.heap.size) W W'):A1 w W' K (fun b=>G b∨(W.heap.size≤b∧b<W'.heap.size)) r m c B cf x v dv s:=
 h.grow (fun _ hb=>Or.inl hb) (h.rm.moreB h2) (h2.mono h.rm.lt)
theorem A1.setW (h:A1 w W K G r m c B cf x v dv s)(j:Nat)(u:Value){x':WrM}{v':Value}(hx:x'.vals v'=(x.vals v).set j u):A1 w (W.setCell ⟨B+1,j,none⟩ u) K G r m c B cf x' v' dv s:=
 ⟨h.rm.setK (a:=⟨B+1,j,none⟩) (h.gb (B+1) (by omega) (by omega)) _,h.kp.setCell (p:=⟨B+1,j,none⟩) (fun hk=>by have:=h.lt (B+1) hk;omega) _,h.sub,h.gb,h.lt,h.b0.set_ne (a:=⟨B+1,j,none⟩) _ (by show B≠B+1;omega),by rw[hx];exact h.b1.set j u,h.b2.set_ne (a:=⟨B+1,j,none⟩) _ (by show B+1+1≠B+1;omega),h.b3.set_ne (a:=⟨B+1,j,none⟩) _ (by show B+1+1+1≠B+1;omega)⟩
theorem A1.setG (h:A1 w W K G r m c B cf x v dv s){b j:Nat}(u:Value)(hg:G b)(hb:B+1+1+1<b):A1 w (W.setCell ⟨b,j,none⟩ u) K G r m c B cf x v dv s:=
 ⟨h.rm.setK (a:=⟨b,j,none⟩) hg _,h.kp.setCell (p:=⟨b,j,none⟩) (fun hk=>by have:=h.lt b hk;omega) _,h.sub,h.gb,h.lt,h.b0.set_ne (a:=⟨b,j,none⟩) _ (by show B≠b;omega),h.b1.set_ne (a:=⟨b,j,none⟩) _ (by show B+1≠b;omega),h.b2.set_ne (a:=⟨b,j,none⟩) _ (by show B+1+1≠b;omega),h.b3.set_ne (a:=⟨b,j,none⟩) _ (by show B+1+1+1≠b;omega)⟩
theorem A1.conv (h:A1 w W K G r m c B cf x v dv s)(hG:∀b,G' b↔G b):A1 w W K G' r m c B cf x v dv s:=
 ⟨h.rm.mono fun b hb=>(hG b).1 hb,h.kp,fun b hb=>(hG b).2 (h.sub b hb),fun b h1 h2=>(hG b).2 (h.gb b h1 h2),h.lt,h.b0,h.b1,h.b2,h.b3⟩
theorem A1.keepK (h:A1 w W K G r m c B cf x v dv s){K2:Nat→Prop}(hK:∀b,K b→K2 b)(hB:∀b,B≤b→b<B+1+1+1+1→K2 b)(h1:RM W' G r m c s')(h2:Keeps K2 W W'):A1 w W' K G r m c B cf x v dv s':=
 ⟨h1,h.kp.trans (h2.mono hK),h.sub,h.gb,h.lt,h.b0.keep h2 (hB _ (by omega) (by omega)),h.b1.keep h2 (hB _ (by omega) (by omega)),h.b2.keep h2 (hB _ (by omega) (by omega)),h.b3.keep h2 (hB _ (by omega) (by omega))⟩
theorem A1.less (h:A1 w W K G r m c B cf x v dv s)(hG:∀b,G' b→G b)(hs:∀b,K b→G' b)(hb:∀b,B≤b→b<B+1+1+1+1→G' b):A1 w W K G' r m c B cf x v dv s:=
 ⟨h.rm.mono hG,h.kp,hs,hb,h.lt,h.b0,h.b1,h.b2,h.b3⟩
theorem keeps_setU (w:World)(b:Nat)(u:V6):Keeps (· ≠b) w ((((((w.setCell ⟨b,3,none⟩ (I u.a0)).setCell ⟨b,4,none⟩ (I u.a1)).setCell ⟨b,5,none⟩ (I u.a2)).setCell ⟨b,6,none⟩ (I u.a3)).setCell ⟨b,7,none⟩ (I u.a4)).setCell ⟨b,8,none⟩ (I u.a5)):=
 have hn:∀i,¬(fun x=>x≠b) (⟨b,i,none⟩:Addr).block:=fun _ h=>h rfl
 ((((((Keeps.refl (· ≠b) w).setCell (p:=⟨b,3,none⟩) (hn 3) _).setCell (p:=⟨b,4,none⟩) (hn 4) _).setCell (p:=⟨b,5,none⟩) (hn 5) _).setCell (p:=⟨b,6,none⟩) (hn 6) _).setCell (p:=⟨b,7,none⟩) (hn 7) _).setCell (p:=⟨b,8,none⟩) (hn 8) _
theorem A1.out (h:A1 w W K G r m c B cf x v dv s):Blk (((((((((W.setCell ⟨B+1+1+1,0,none⟩ v).setCell ⟨B+1+1+1,1,none⟩ (I x.terms)).setCell ⟨B+1+1+1,2,none⟩ (J x.ver)).setCell ⟨B+1+1+1,3,none⟩ (I x.used.a0)).setCell ⟨B+1+1+1,4,none⟩ (I x.used.a1)).setCell ⟨B+1+1+1,5,none⟩ (I x.used.a2)).setCell ⟨B+1+1+1,6,none⟩ (I x.used.a3)).setCell ⟨B+1+1+1,7,none⟩ (I x.used.a4)).setCell ⟨B+1+1+1,8,none⟩ (I x.used.a5)) (B+1+1+1) (x.vals v)∧RM (((((((((W.setCell ⟨B+1+1+1,0,none⟩ v).setCell ⟨B+1+1+1,1,none⟩ (I x.terms)).setCell ⟨B+1+1+1,2,none⟩ (J x.ver)).setCell ⟨B+1+1+1,3,none⟩ (I x.used.a0)).setCell ⟨B+1+1+1,4,none⟩ (I x.used.a1)).setCell ⟨B+1+1+1,5,none⟩ (I x.used.a2)).setCell ⟨B+1+1+1,6,none⟩ (I x.used.a3)).setCell ⟨B+1+1+1,7,none⟩ (I x.used.a4)).setCell ⟨B+1+1+1,8,none⟩ (I x.used.a5)) G r m c s∧Keeps K w (((((((((W.setCell ⟨B+1+1+1,0,none⟩ v).setCell ⟨B+1+1+1,1,none⟩ (I x.terms)).setCell ⟨B+1+1+1,2,none⟩ (J x.ver)).setCell ⟨B+1+1+1,3,none⟩ (I x.used.a0)).setCell ⟨B+1+1+1,4,none⟩ (I x.used.a1)).setCell ⟨B+1+1+1,5,none⟩ (I x.used.a2)).setCell ⟨B+1+1+1,6,none⟩ (I x.used.a3)).setCell ⟨B+1+1+1,7,none⟩ (I x.used.a4)).setCell ⟨B+1+1+1,8,none⟩ (I x.used.a5))∧Keeps (· ≠B+1+1+1) W (((((((((W.setCell ⟨B+1+1+1,0,none⟩ v).setCell ⟨B+1+1+1,1,none⟩ (I x.terms)).setCell ⟨B+1+1+1,2,none⟩ (J x.ver)).setCell ⟨B+1+1+1,3,none⟩ (I x.used.a0)).setCell ⟨B+1+1+1,4,none⟩ (I x.used.a1)).setCell ⟨B+1+1+1,5,none⟩ (I x.used.a2)).setCell ⟨B+1+1+1,6,none⟩ (I x.used.a3)).setCell ⟨B+1+1+1,7,none⟩ (I x.used.a4)).setCell ⟨B+1+1+1,8,none⟩ (I x.used.a5)):=by
 have hb:G (B+1+1+1):=h.gb _ (by omega) (by omega)
 have hK:¬K (B+1+1+1):=fun hk=>by have:=h.lt _ hk;omega
 have hN:¬(fun b=>b≠B+1+1+1) (B+1+1+1):=fun hk=>hk rfl;have h2:=h.b3;unfold zer9 at h2;refine⟨(((((((((h2.set 0 v).set 1 (I x.terms)).set 2 (J x.ver)).set 3 (I x.used.a0)).set 4 (I x.used.a1)).set 5 (I x.used.a2)).set 6 (I x.used.a3)).set 7 (I x.used.a4)).set 8 (I x.used.a5)),?_,?_,?_⟩
 ·exact(((((((((h.rm.setK (a:=⟨B+1+1+1,0,none⟩) hb v).setK (a:=⟨B+1+1+1,1,none⟩) hb (I x.terms)).setK (a:=⟨B+1+1+1,2,none⟩) hb (J x.ver)).setK (a:=⟨B+1+1+1,3,none⟩) hb (I x.used.a0)).setK (a:=⟨B+1+1+1,4,none⟩) hb (I x.used.a1)).setK (a:=⟨B+1+1+1,5,none⟩) hb (I x.used.a2)).setK (a:=⟨B+1+1+1,6,none⟩) hb (I x.used.a3)).setK (a:=⟨B+1+1+1,7,none⟩) hb (I x.used.a4)).setK (a:=⟨B+1+1+1,8,none⟩) hb (I x.used.a5))
 ·exact(((((((((h.kp.setCell (p:=⟨B+1+1+1,0,none⟩) hK v).setCell (p:=⟨B+1+1+1,1,none⟩) hK (I x.terms)).setCell (p:=⟨B+1+1+1,2,none⟩) hK (J x.ver)).setCell (p:=⟨B+1+1+1,3,none⟩) hK (I x.used.a0)).setCell (p:=⟨B+1+1+1,4,none⟩) hK (I x.used.a1)).setCell (p:=⟨B+1+1+1,5,none⟩) hK (I x.used.a2)).setCell (p:=⟨B+1+1+1,6,none⟩) hK (I x.used.a3)).setCell (p:=⟨B+1+1+1,7,none⟩) hK (I x.used.a4)).setCell (p:=⟨B+1+1+1,8,none⟩) hK (I x.used.a5))
 ·exact((((((((((Keeps.refl (· ≠B+1+1+1) W).setCell (p:=⟨B+1+1+1,0,none⟩) hN v).setCell (p:=⟨B+1+1+1,1,none⟩) hN (I x.terms)).setCell (p:=⟨B+1+1+1,2,none⟩) hN (J x.ver)).setCell (p:=⟨B+1+1+1,3,none⟩) hN (I x.used.a0)).setCell (p:=⟨B+1+1+1,4,none⟩) hN (I x.used.a1)).setCell (p:=⟨B+1+1+1,5,none⟩) hN (I x.used.a2)).setCell (p:=⟨B+1+1+1,6,none⟩) hN (I x.used.a3)).setCell (p:=⟨B+1+1+1,7,none⟩) hN (I x.used.a4)).setCell (p:=⟨B+1+1+1,8,none⟩) hN (I x.used.a5))
end
theorem A1.setU {w W:World}{K G:Nat→Prop}{r m c B:Nat}{cf:ConfM}{x:WrM}{v:Value}{dv:List Value}{s:St}(h:A1 w W K G r m c B cf x v dv s)(u:V6):A1 w ((((((W.setCell ⟨B+1,3,none⟩ (I u.a0)).setCell ⟨B+1,4,none⟩ (I u.a1)).setCell ⟨B+1,5,none⟩ (I u.a2)).setCell ⟨B+1,6,none⟩ (I u.a3)).setCell ⟨B+1,7,none⟩ (I u.a4)).setCell ⟨B+1,8,none⟩ (I u.a5)) K G r m c B cf { x with used:=u } v dv s:=
 ((((((h.setW 3 (I u.a0) (x':={ x with used:=⟨u.a0,x.used.a1,x.used.a2,x.used.a3,x.used.a4,x.used.a5⟩ }) (v':=v) rfl).setW 4 (I u.a1) (x':={ x with used:=⟨u.a0,u.a1,x.used.a2,x.used.a3,x.used.a4,x.used.a5⟩ }) (v':=v) rfl).setW 5 (I u.a2) (x':={ x with used:=⟨u.a0,u.a1,u.a2,x.used.a3,x.used.a4,x.used.a5⟩ }) (v':=v) rfl).setW 6 (I u.a3) (x':={ x with used:=⟨u.a0,u.a1,u.a2,u.a3,x.used.a4,x.used.a5⟩ }) (v':=v) rfl).setW 7 (I u.a4) (x':={ x with used:=⟨u.a0,u.a1,u.a2,u.a3,u.a4,x.used.a5⟩ }) (v':=v) rfl).setW 8 (I u.a5) (x':={ x with used:=⟨u.a0,u.a1,u.a2,u.a3,u.a4,u.a5⟩ }) (v':=v) rfl)
theorem A1.ver {w W:World}{K G:Nat→Prop}{r m c B:Nat}{cf:ConfM}{x:WrM}{v:Value}{dv:List Value}{s:St}(h:A1 w W K G r m c B cf x v dv s)(y:Int):A1 w (W.setCell ⟨B+1,2,none⟩ (J y)) K G r m c B cf { x with ver:=y } v dv s:=h.setW 2 _ rfl
theorem A1.trm {w W:World}{K G:Nat→Prop}{r m c B:Nat}{cf:ConfM}{x:WrM}{v:Value}{dv:List Value}{s:St}(h:A1 w W K G r m c B cf x v dv s)(y:Int):A1 w (W.setCell ⟨B+1,1,none⟩ (I y)) K G r m c B cf { x with terms:=y } v dv s:=h.setW 1 _ rfl
theorem A1.seg {w W:World}{K G:Nat→Prop}{r m c B:Nat}{cf:ConfM}{x:WrM}{v:Value}{dv:List Value}{s:St}(h:A1 w W K G r m c B cf x v dv s)(v':Value)(l:List SegM):A1 w (W.setCell ⟨B+1,0,none⟩ v') K G r m c B cf { x with segs:=l } v' dv s:=h.setW 0 _ rfl
structure PlanOk (p:PlanM):Prop where
 wf:p.Wf
 n0:1≤p.slots
 n1:p.slots≤512
 s4:p.size.a4≤65536
 b4:0≤p.base.a4∧p.base.a4≤65536
 g:∀k,k<6→0≤p.size.g6 k∧p.size.g6 k≤65536
theorem plan_facts {c:ConfM}(h:c.ok)(ha:c.all≤65536):PlanOk c.plan:=by
 obtain⟨a1,a2,a3,a4,b1,b2,b3,b4,b5,b6,b7,b8,d1,d2,d3,d4⟩:=h;unfold ConfM.all at ha;refine⟨⟨fun k=>?_,fun k=>?_⟩,?_,?_,?_,?_,all_six ?_ ?_ ?_ ?_ ?_ ?_⟩
 ·unfold PlanM.bK ConfM.plan
  split<;>dsimp only<;>omega
 ·unfold PlanM.sK ConfM.plan
  split<;>dsimp only<;>omega
 ·unfold ConfM.plan;dsimp only;split<;>(try split)<;>omega
 ·unfold ConfM.plan;dsimp only;split<;>(try split)<;>omega
 ·unfold ConfM.plan;dsimp only;omega
 ·unfold ConfM.plan;dsimp only;omega
 ·show 0≤4*c.s0∧4*c.s0≤65536;omega
 ·show 0≤16*c.s1∧16*c.s1≤65536;omega
 ·show 0≤64*c.s2∧64*c.s2≤65536;omega
 ·show 0≤256*c.s3∧256*c.s3≤65536;omega
 ·show 0≤c.book∧c.book≤65536;omega
 ·show 0≤c.room∧c.room≤65536;omega
theorem last_ix {α:Type}{l:List α}{x:α}(h:l.getLast?=some x):∃k,l.length=k+1∧l[k]? =some x:=by
 have hne:l≠[]:=fun e=>by rw[e]at h;cases h
 have hp:=List.length_pos_iff.2 hne;refine⟨l.length-1,by omega,?_⟩
 rwa [List.getLast?_eq_getElem?]at h
def hasK (key:ByteArray)(l:List TermM):Prop:=∃t∈l,t.key=key
theorem hasK.ix {key:ByteArray}{l:List TermM}(h:hasK key l):∃t0,l[keyIx key l]? =some t0:=by
 obtain⟨t,ht,rfl⟩:=h;have:keyIx t.key l<l.length:=List.findIdx_lt_length_of_exists ⟨t,ht,by simp⟩
 exact⟨_,List.getElem?_eq_getElem this⟩
theorem keyIx_key {key:ByteArray}{l:List TermM}{t:TermM}(h:l[keyIx key l]? =some t):t.key=key:=key_same (keyIx_hit h)
structure TermsOk (k:Nat)(l:List TermM):Prop where
 t:∀t∈l,U32 t.tl∧(0≤t.cnt∧t.cnt≤k)∧t.key.size≤901
 len:l.length≤k
theorem termsT_ok (s0:Int)(n:Nat)(hn:0<n):∀(l:List TokI) (out:List TermM) (k:Nat),(∀x∈l,x.2.1.size≤900)→TermsOk k out→
  (termsT s0 n l out).Says U32 fun r=>TermsOk (k+l.length) r∧(∀key,hasK key out→hasK key r)∧∀x∈l,hasK (keyB x.1 x.2.1) r
 | [],out,k,_,h=>⟨h,fun _ h=>h,fun x hx=>by cases hx⟩
 |x::l,out,k,hx,h=>by
  have z0:U32 0:=⟨by decide,by decide⟩
  have hs:=hx x List.mem_cons_self;have hkz:=keyB_size x.1 x.2.1;have hl:∀y∈l,y.2.1.size≤900:=fun y hy=>hx y (List.mem_cons_of_mem _ hy);have hk1:k+(x::l).length=k+1+l.length:=by rw[List.length_cons];omega
  have fin:∀{t:Tree (List TermM)} {out':List TermM},(t.Says U32 fun r=>TermsOk (k+1+l.length) r∧(∀key,hasK key out'→hasK key r)∧∀x∈l,hasK (keyB x.1 x.2.1) r)→(∀key,hasK key out→hasK key out')→hasK (keyB x.1 x.2.1) out'→
    t.Says U32 fun r=>TermsOk (k+(x::l).length) r∧(∀key,hasK key out→hasK key r)∧∀y∈x::l,hasK (keyB y.1 y.2.1) r:=fun ht h1 h2=>ht.mono fun r ⟨g1,g2,g3⟩=>by
   rw[hk1];refine⟨g1,fun key hk=>g2 key (h1 key hk),fun y hy=>?_⟩
   rcases List.mem_cons.1 hy with rfl|hy
   ·exact g2 _ h2
   ·exact g3 y hy
  have app:∀(rc tl:Int),U32 tl→(termsT s0 n l (out++[⟨keyB x.1 x.2.1,rc,tl,1⟩])).Says U32 fun r=>TermsOk (k+(x::l).length) r∧(∀key,hasK key out→hasK key r)∧∀y∈x::l,hasK (keyB y.1 y.2.1) r:=fun rc tl htl=>by
   refine fin (termsT_ok s0 n hn l (out++[⟨keyB x.1 x.2.1,rc,tl,1⟩]) (k+1) hl ⟨fun t ht=>?_,by rw[List.length_append];have:=h.len;simp;omega⟩) (fun key ⟨t,h1,h2⟩=>⟨t,List.mem_append_left _ h1,h2⟩) ⟨_,List.mem_append_right _ (List.mem_singleton.2 rfl),rfl⟩
   rcases List.mem_append.1 ht with h1|h1
   ·obtain⟨a,b,d⟩:=h.t t h1;exact⟨a,⟨b.1,by have:=b.2;omega⟩,d⟩
   ·rw[List.mem_singleton.1 h1];exact⟨htl,⟨by show(0:Int)≤1;omega,by show(1:Int)≤_;omega⟩,by dsimp only;omega⟩
  unfold termsT
  split
  ·rename_i t ht
   obtain⟨a,b,d⟩:=h.t t (List.mem_of_getElem? ht);have hkk:=keyIx_key ht;refine fin (out':=out.set (keyIx (keyB x.1 x.2.1) out) { t with cnt:=t.cnt+1 }) (termsT_ok s0 n hn l _ (k+1) hl ⟨fun t' ht'=>?_,by rw[List.length_set];have:=h.len;omega⟩) ?_ ?_
   ·rcases List.mem_or_eq_of_mem_set ht' with h1|rfl
    ·obtain⟨a,b,d⟩:=h.t t' h1;exact⟨a,⟨b.1,by have:=b.2;omega⟩,d⟩
    ·exact⟨a,⟨by dsimp only;omega,by dsimp only;omega⟩,d⟩
   ·rintro key ⟨t',h1,h2⟩;obtain⟨j,hj,rfl⟩:=List.getElem_of_mem h1
    by_cases e:j=keyIx (keyB x.1 x.2.1) out
    ·subst e;rw[List.getElem?_eq_getElem hj]at ht;injection ht with ht
     exact⟨_,List.mem_iff_getElem.2 ⟨_,by rw[List.length_set];exact hj,List.getElem_set_self ..⟩,by rw[←h2,ht]⟩
    ·exact⟨out[j],List.mem_iff_getElem.2 ⟨j,by rw[List.length_set];exact hj,List.getElem_set_ne (fun h=>e h.symm) ..⟩,h2⟩
   ·have hj:=(List.getElem?_eq_some_iff.1 ht).1;exact⟨{ t with cnt:=t.cnt+1 },List.mem_iff_getElem.2 ⟨_,by rw[List.length_set];exact hj,List.getElem_set_self ..⟩,hkk⟩
  ·unfold lookT;refine Tree.Says.bind (Tree.Says.bind ((findD_says z0 s0 n _ _ _ hn n 0).mono fun q _=>?_))
   split
   ·exact app 0 0 z0
   ·intro v hv;exact app _ v hv
theorem wordT_ok {p:PlanM}{s0 d:Int}{n:Nat}{x:TokI}{all:List TermM}{u:V6}{s:St}(hp:p.Wf)(hu:UIn p u)(hall:∀t∈all,U32 t.tl):
  UIn p ((wordT p s0 n d x all u).exec s).1.2∧(∀t∈((wordT p s0 n d x all u).exec s).1.1,U32 t.tl)∧((wordT p s0 n d x all u).exec s).1.1.map (·.key)=all.map (·.key):=by
 unfold wordT
 cases e:all[keyIx (keyB x.1 x.2.1) all]? with
 |none=>exact⟨hu,hall,rfl⟩
 |some t=>
  dsimp only;rw[Tree.exec_bind,Tree.exec_bind];have h1:UIn p ((recT p s0 n t u).exec s).1.2:=by
   unfold recT
   split
   ·rw[Tree.exec_bind];exact dictPutT_ok hu
   ·exact hu
  have h2:=postPutT_ok (p:=p) (u:=((recT p s0 n t u).exec s).1.2) (t:=t.tl) (v:=wordOf d x.2.2) (s:=((recT p s0 n t u).exec s).2) hp h1 (hall t (List.mem_of_getElem? e));refine⟨h2.1,fun t' ht'=>?_,?_⟩
  ·rcases List.mem_or_eq_of_mem_set (ht':t'∈all.set _ _)with h|rfl
   ·exact hall t' h
   ·exact h2.2
  ·show(all.set _ _).map _=_;rw[List.map_set];obtain⟨hj,he⟩:=List.getElem?_eq_some_iff.1 e;refine List.ext_getElem? fun i=>?_
   by_cases hi:i=keyIx (keyB x.1 x.2.1) all
   ·subst hi;rw[List.getElem?_set_self (by rw[List.length_map];exact hj),List.getElem?_map,e];rfl
   ·rw[List.getElem?_set_ne (fun e=>hi e.symm)]
theorem wordsT_cons (p:PlanM)(s0:Int)(n:Nat)(d:Int)(x:TokI)(l:List TokI)(all:List TermM)(u:V6)(s:St):(wordsT p s0 n d (x::l) all u).exec s=(wordsT p s0 n d l ((wordT p s0 n d x all u).exec s).1.1 ((wordT p s0 n d x all u).exec s).1.2).exec ((wordT p s0 n d x all u).exec s).2:=by
 show((wordT p s0 n d x all u).bind _).exec s=_;rw[Tree.exec_bind]
theorem needsP_pos (p:PlanM):∀(l:List TermM) (fr:Int) (more:V6),0≤fr→(∀k,k<6→0≤more.g6 k)→(∀k,k<6→0≤(needsP p l fr more).2.g6 k)∧0≤(needsP p l fr more).1∧(needsP p l fr more).1≤fr+(l.length:Nat)
 | [],fr,more,h,hm=>⟨hm,h,by simp[needsP]⟩
 |t::l,fr,more,h,hm=>by
  rw[needsP_cons];obtain⟨a0,a1,a2,a3,a4,a5⟩:=need_in p t.tl t.cnt;have m0:=hm 0 (by decide)
  have m1:=hm 1 (by decide)
  have m2:=hm 2 (by decide)
  have m3:=hm 3 (by decide)
  have m4:=hm 4 (by decide)
  have m5:=hm 5 (by decide)
  simp only[V6.g6]at m0 m1 m2 m3 m4 m5
  split
  ·obtain⟨g1,g2,g3⟩:=needsP_pos p l (fr+1) ({ more with a4:=more.a4+(2+(((t.key.size+3)/4:Nat):Int)) }.sum (p.need t.tl t.cnt)) (by omega) (all_six (by show 0≤more.a0+_;omega) (by show 0≤more.a1+_;omega) (by show 0≤more.a2+_;omega) (by show 0≤more.a3+_;omega) (by show 0≤more.a4+(2+(((t.key.size+3)/4:Nat):Int))+_;omega) (by show 0≤more.a5+_;omega))
   exact⟨g1,g2,by rw[List.length_cons];omega⟩
  ·obtain⟨g1,g2,g3⟩:=needsP_pos p l fr (more.sum (p.need t.tl t.cnt)) h (all_six (by show 0≤more.a0+_;omega) (by show 0≤more.a1+_;omega) (by show 0≤more.a2+_;omega) (by show 0≤more.a3+_;omega) (by show 0≤more.a4+_;omega) (by show 0≤more.a5+_;omega))
   exact⟨g1,g2,by rw[List.length_cons];omega⟩
theorem UIn.g6 {p:PlanM}{u:V6}(h:UIn p u):∀k,k<6→0≤u.g6 k∧u.g6 k≤p.size.g6 k:=by
 obtain⟨h0,h1,h2,h3,h4,h5⟩:=h;exact all_six h0 h1 h2 h3 h4 h5
theorem moreDocs_set {l:List SegM}{k:Nat}{a:SegM}(hk:l.length=k+1)(h:l[k]? =some a):l.set k { a with docs:=a.docs+1 }=moreDocs l:=by
 have hne:l≠[]:=fun e=>by rw[e]at hk;cases hk
 have hl:l.getLast?=some a:=by rw[List.getLast?_eq_getElem?,hk];exact h
 have ha:l.getLast hne=a:=by rw[List.getLast?_eq_some_getLast hne]at hl;injection hl
 unfold moreDocs;rw[hl];have e:l=l.dropLast++[a]:=by rw[←ha];exact(List.dropLast_concat_getLast hne).symm
 have hd:l.dropLast.length=k:=by rw[List.length_dropLast];omega
 have:(l.dropLast++[a]).set k { a with docs:=a.docs+1 }=l.dropLast++[{ a with docs:=a.docs+1 }]:=by
  rw[List.set_append_right _ _ (by omega),hd,Nat.sub_self];rfl
 rw[←e]at this;exact this
theorem hasK_map {key:ByteArray}{l l':List TermM}(h:hasK key l)(e:l'.map (·.key)=l.map (·.key)):hasK key l':=by
 obtain⟨t,h1,h2⟩:=h;have:key∈l.map (·.key):=List.mem_map.2 ⟨t,h1,h2⟩;rw[←e]at this;obtain⟨t',h3,h4⟩:=List.mem_map.1 this;exact⟨t',h3,h4⟩
theorem toksL_small:∀(fs:List ByteArray) (i:Nat),i+fs.length≤255→∀t∈toksL i fs,(0≤t.1∧t.1≤255)∧t.2.1.size≤16
 | [],i,_,t,h=>by cases h
 |f::fs,i,hi,t,h=>by
  rw[List.length_cons]at hi
  rcases List.mem_append.1 (h:t∈_++toksL (i+1) fs)with h|h
  ·obtain⟨y,hy,rfl⟩:=List.mem_map.1 h;exact⟨⟨by show(0:Int)≤(i:Int);omega,by show(i:Int)≤255;omega⟩,wordsL_size _ _ _ y hy⟩
  ·exact toksL_small fs (i+1) (by omega) t h
theorem toksM_small {fs:List ByteArray}{l:List TokI}(h:toksM fs=some l):(∀t∈l,(0≤t.1∧t.1≤255)∧t.2.1.size≤16)∧l.length≤64:=by
 unfold toksM at h
 split at h
 ·cases h
 ·rename_i hl
  split at h
  ·cases h
  ·rename_i h64
   injection h with h
   subst h;have h4:fs.length≤4:=by
    unfold longF at hl
    simp at hl
    omega
   exact⟨toksL_small fs 0 (by omega),by omega⟩
end Go.Proofs.YtogdknnkhkjmcaaGreatDoor
