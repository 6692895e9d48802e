/- Layer 12 (write): contract of Delete. -/
import Derived.Test.YtogdknnkhkjmcaaGreatDoorWrI
import Derived.Test.YtogdknnkhkjmcaaGreatDoorJWrM
namespace Go.Proofs.YtogdknnkhkjmcaaGreatDoor
open Go.RowKit
set_option linter.all false
def zer9:List Value:=[.slice none 0 0,.int .i64 0,.int .u32 0,.int .i64 0,.int .i64 0,.int .i64 0,.int .i64 0,.int .i64 0,.int .i64 0]
structure D1 (w W:World)(K:Nat→Prop)(r m c B:Nat)(x:WrM)(v:Value)(s:St):Prop where
 rm:RM W (fun b=>K b∨(B≤b∧b<B+1+1+1)) r m c s
 kp:Keeps K w W
 b1:Blk W (B+1) (x.vals v)
 b2:Blk W (B+1+1) zer9
 lt:∀b,K b→b<B
section
variable {w W W':World}{K:Nat→Prop}{r m c B:Nat}{x:WrM}{v:Value}{s s':St}
theorem D1.keep (h:D1 w W K r m c B x v s)(h1:RM W' (fun b=>K b∨(B≤b∧b<B+1+1+1)) r m c s')(h2:Keeps (fun b=>K b∨(B≤b∧b<B+1+1+1)) W W'):D1 w W' K r m c B x v s':=
 ⟨h1,h.kp.trans (h2.mono fun b hb=>Or.inl hb),h.b1.keep h2 (Or.inr (by omega)),h.b2.keep h2 (Or.inr (by omega)),h.lt⟩
theorem D1.below (h:D1 w W K r m c B x v s)(h2:Keeps (· <W.heap.size) W W'):D1 w W' K r m c B x v s:=h.keep (h.rm.below h2) (h2.mono h.rm.lt)
theorem D1.ver (h:D1 w W K r m c B x v s)(y:Int):D1 w (W.setCell ⟨B+1,2,none⟩ (J y)) K r m c B { x with ver:=y } v s:=
 ⟨h.rm.setK (a:=⟨B+1,2,none⟩) (Or.inr (by show B≤B+1∧B+1<B+1+1+1;omega)) _,h.kp.setCell (p:=⟨B+1,2,none⟩) (fun hk=>by have:=h.lt (B+1) hk;omega) _,h.b1.set 2 _,h.b2.set_ne (a:=⟨B+1,2,none⟩) _ (by show B+1+1≠B+1;omega),h.lt⟩
theorem D1.out (h:D1 w W K r m c B x v s):Blk (((((((((W.setCell ⟨B+1+1,0,none⟩ v).setCell ⟨B+1+1,1,none⟩ (I x.terms)).setCell ⟨B+1+1,2,none⟩ (J x.ver)).setCell ⟨B+1+1,3,none⟩ (I x.used.a0)).setCell ⟨B+1+1,4,none⟩ (I x.used.a1)).setCell ⟨B+1+1,5,none⟩ (I x.used.a2)).setCell ⟨B+1+1,6,none⟩ (I x.used.a3)).setCell ⟨B+1+1,7,none⟩ (I x.used.a4)).setCell ⟨B+1+1,8,none⟩ (I x.used.a5)) (B+1+1) (x.vals v)∧RM (((((((((W.setCell ⟨B+1+1,0,none⟩ v).setCell ⟨B+1+1,1,none⟩ (I x.terms)).setCell ⟨B+1+1,2,none⟩ (J x.ver)).setCell ⟨B+1+1,3,none⟩ (I x.used.a0)).setCell ⟨B+1+1,4,none⟩ (I x.used.a1)).setCell ⟨B+1+1,5,none⟩ (I x.used.a2)).setCell ⟨B+1+1,6,none⟩ (I x.used.a3)).setCell ⟨B+1+1,7,none⟩ (I x.used.a4)).setCell ⟨B+1+1,8,none⟩ (I x.used.a5)) K r m c s∧Keeps K w (((((((((W.setCell ⟨B+1+1,0,none⟩ v).setCell ⟨B+1+1,1,none⟩ (I x.terms)).setCell ⟨B+1+1,2,none⟩ (J x.ver)).setCell ⟨B+1+1,3,none⟩ (I x.used.a0)).setCell ⟨B+1+1,4,none⟩ (I x.used.a1)).setCell ⟨B+1+1,5,none⟩ (I x.used.a2)).setCell ⟨B+1+1,6,none⟩ (I x.used.a3)).setCell ⟨B+1+1,7,none⟩ (I x.used.a4)).setCell ⟨B+1+1,8,none⟩ (I x.used.a5)):=by
 have hb:(fun b=>K b∨(B≤b∧b<B+1+1+1)) (B+1+1):=Or.inr (by omega)
 have hK:¬K (B+1+1):=fun hk=>by have:=h.lt _ hk;omega
 have h2:=h.b2;unfold zer9 at h2;refine⟨((((((((h2.set 0 v).set 1 (I x.terms)).set 2 (J x.ver)).set 3 (I x.used.a0)).set 4 (I x.used.a1)).set 5 (I x.used.a2)).set 6 (I x.used.a3)).set 7 (I x.used.a4)).set 8 (I x.used.a5),?_,?_⟩
 ·exact RM.mono (((((((((h.rm.setK (a:=⟨B+1+1,0,none⟩) hb v).setK (a:=⟨B+1+1,1,none⟩) hb (I x.terms)).setK (a:=⟨B+1+1,2,none⟩) hb (J x.ver)).setK (a:=⟨B+1+1,3,none⟩) hb (I x.used.a0)).setK (a:=⟨B+1+1,4,none⟩) hb (I x.used.a1)).setK (a:=⟨B+1+1,5,none⟩) hb (I x.used.a2)).setK (a:=⟨B+1+1,6,none⟩) hb (I x.used.a3)).setK (a:=⟨B+1+1,7,none⟩) hb (I x.used.a4)).setK (a:=⟨B+1+1,8,none⟩) hb (I x.used.a5)) fun b hb=>Or.inl hb
 ·exact((((((((h.kp.setCell (p:=⟨B+1+1,0,none⟩) hK v).setCell (p:=⟨B+1+1,1,none⟩) hK (I x.terms)).setCell (p:=⟨B+1+1,2,none⟩) hK (J x.ver)).setCell (p:=⟨B+1+1,3,none⟩) hK (I x.used.a0)).setCell (p:=⟨B+1+1,4,none⟩) hK (I x.used.a1)).setCell (p:=⟨B+1+1,5,none⟩) hK (I x.used.a2)).setCell (p:=⟨B+1+1,6,none⟩) hK (I x.used.a3)).setCell (p:=⟨B+1+1,7,none⟩) hK (I x.used.a4)).setCell (p:=⟨B+1+1,8,none⟩) hK (I x.used.a5)
end
theorem placeT_found (id:Int)(segs:List SegM):∀(l:List SegM) (i:Nat) (s:St),segs.drop i=l→((placeT id l i).exec s).1.2.2=true→
  ∃x,segs[((placeT id l i).exec s).1.1.toNat]? =some x∧0≤((placeT id l i).exec s).1.1∧((placeT id l i).exec s).1.1.toNat<segs.length∧0≤((placeT id l i).exec s).1.2.1∧((placeT id l i).exec s).1.2.1≤x.docs
 | [],i,s,_,h=>by cases h
 |x::l,i,s,hd,h=>by
  have hi:i<segs.length:=by
   rcases Nat.lt_or_ge i segs.length with h|h
   ·exact h
   ·rw[List.drop_eq_nil_of_le h]at hd;cases hd
  rw[List.drop_eq_getElem_cons hi]at hd;injection hd with h1 h2
  have hr:=findT_range x.base id x.docs 0 s;rw[placeT_cons]at h ⊢
  split at h
  ·rename_i hc
   rw[if_pos hc];exact⟨x,by simp[hi,h1],by dsimp only;omega,by simpa using hi,hc,by dsimp only;omega⟩
  ·rename_i hc
   rw[if_neg hc];exact placeT_found id segs l (i+1) _ h2 h
set_option maxRecDepth 100000 in
set_option maxHeartbeats 4000000 in
theorem write_delete {w:World}{K:Nat→Prop}{r m c:Nat}{s:St}(h:RM w K r m c s)(cf:ConfM)(W:WrM)(A:Option Addr)(cp:Nat)(id:Int)(hsl:SlAt w K 3 (.slice A W.segs.length cp) W.segs.length (W.segs.flatMap SegM.cells))
  (hok:∀x∈W.segs,(-1099511627700≤x.addr∧x.addr≤1099511627700)∧x.docs≤65536) (hn:W.segs.length≤65536) (hi:U32 id) (hv:0≤W.ver∧W.ver≤4294967294):
  Calls Tryz.prog 35 #[.pointer (some ⟨r,0,none⟩),.agg cf.list.toArray,.agg (W.vals (.slice A W.segs.length cp)).toArray,J id] w fun e w'=>
   e= .returned (.tuple #[.agg (((delT W id).exec s).1.1.vals (.slice A W.segs.length cp)).toArray,I ((delT W id).exec s).1.2])∧RM w' K r m c ((delT W id).exec s).2∧Keeps K w w':=by
 have hpl:=fun W0 (hR:RM W0 (fun b=>K b∨(w.heap.size≤b∧b<w.heap.size+1+1+1)) r m c s) hS=>write_place hR W A cp id hS hok hn hi;have hfd:=placeT_found id W.segs W.segs 0 s rfl;have hlt:=h.lt;obtain⟨hv0,hv1⟩:=hv;obtain⟨res,hres⟩:∃t,t=(delT W id).exec s:=⟨_,rfl⟩;rw[←hres];have hres2:res=(if((placeT id W.segs 0).exec s).1.2.2=false then .ret (W,7)else
  match W.segs[((placeT id W.segs 0).exec s).1.1.toNat]? with
  |none=> .ret (W,7)
  |some x=>(rowT x.base ((placeT id W.segs 0).exec s).1.2.1).bind fun row=> .off fun o=>if o=true∨row.tomb≠0 then .ret (W,7)else
   (killT x.base ((placeT id W.segs 0).exec s).1.2.1 (W.ver+1)).bind fun _=> .store 1 (W.ver+1) (.ret ({ W with ver:=W.ver+1 },0)):Tree (WrM×Int)).exec ((placeT id W.segs 0).exec s).2:=by
  rw[hres];unfold delT;rw[Tree.exec_bind];rfl
 clear hres;generalize (placeT id W.segs 0).exec s=pq at*;obtain⟨⟨pi,pd,pb⟩,s1⟩:=pq;dsimp only at hpl hfd hres2;obtain⟨segs,wt,wv,u0,u1,u2,u3,u4,u5⟩:=W;dsimp only at hsl hok hn hv0 hv1 hpl hfd hres2 ⊢;have hR0:=h;have H:=hid h;have Hsl:=hid hsl;have Hok:=hid hok;have Hlt:=hid hlt;have Hpl:=hid hpl;have Hfd:=hid hfd;have Hres2:=hid hres2;clear h hsl hok hlt hpl hfd hres2
 clear hR0;refine calls_hide fun R' hR'=>?_;unfold ConfM.list WrM.vals at*;dsimp only at*
 go_enter Tryz.func35,Tryz.ntmps35
 go_wp2_with fail
 refine calls_gen (fun W0=>D1 w W0 K r m c w.heap.size ⟨segs,wt,wv,⟨u0,u1,u2,u3,u4,u5⟩⟩ (.slice A segs.length cp) s) ?_ (fun W0 hD=>?_)
 ·have hk:Keeps (· <w.heap.size) w (((w.alloc (.cells #[I cf.docs,I cf.terms,I cf.s0,I cf.s1,I cf.s2,I cf.s3,I cf.book,I cf.room,cf.k,cf.b] 25)).alloc (.cells #[.slice A segs.length cp,I wt,J wv,I u0,I u1,I u2,I u3,I u4,I u5] 46)).alloc (.cells #[.slice none 0 0,I 0,J 0,I 0,I 0,I 0,I 0,I 0,I 0] 46)):=by
   exact kA
  have hb1:=((Blk.new (w.alloc (.cells #[I cf.docs,I cf.terms,I cf.s0,I cf.s1,I cf.s2,I cf.s3,I cf.book,I cf.room,cf.k,cf.b] 25)) [.slice A segs.length cp,I wt,J wv,I u0,I u1,I u2,I u3,I u4,I u5] 46).alloc (.cells #[.slice none 0 0,I 0,J 0,I 0,I 0,I 0,I 0,I 0,I 0] 46));have hb2:=Blk.new ((w.alloc (.cells #[I cf.docs,I cf.terms,I cf.s0,I cf.s1,I cf.s2,I cf.s3,I cf.book,I cf.room,cf.k,cf.b] 25)).alloc (.cells #[.slice A segs.length cp,I wt,J wv,I u0,I u1,I u2,I u3,I u4,I u5] 46)) [.slice none 0 0,I 0,J 0,I 0,I 0,I 0,I 0,I 0,I 0] 46
  refine⟨(H.out.moreB hk).mono fun b hb=>?_,hk.mono Hlt.out,?_,?_,Hlt.out⟩
  ·rcases hb with hb|hb
   ·exact Or.inl hb
   ·exact Or.inr (by simpa using hb)
  ·simpa[WrM.vals]using hb1
  ·unfold zer9;simpa using hb2
 generalize hBB:w.heap.size=B at*;have hS:=(Hsl.out.keep hD.kp fun b hb=>hb).mono (L:=fun b=>K b∨(B≤b∧b<B+1+1+1)) fun b hb=>Or.inl hb;refine(Hpl.out W0 hD.rm hS).mono ?_;rintro e w1 ⟨rfl,hr1,hk1⟩;have hD1:=hD.keep hr1 hk1;clear hD hr1 hk1 hS Hpl
 cases pb with
 |false=>
  have hres:res=((⟨segs,wt,wv,⟨u0,u1,u2,u3,u4,u5⟩⟩,7),s1):=by rw[Hres2.out];rfl
  have zz63:=@c359;exact c358
 |true=>
  obtain⟨x,hx,hpi0,hpi1,hpd0,hpd1⟩:=Hfd.out rfl;obtain⟨⟨x0,x1⟩,x2⟩:=Hok.out x (List.mem_of_getElem? hx);have hbs:=Small.base ⟨x0,x1⟩;have hres:res=((rowT x.base pd).bind fun row=> .off fun o=>if o=true∨row.tomb≠0 then .ret (⟨segs,wt,wv,⟨u0,u1,u2,u3,u4,u5⟩⟩,7)else
   (killT x.base pd (wv+1)).bind fun _=> .store 1 (wv+1) (.ret (⟨segs,wt,wv+1,⟨u0,u1,u2,u3,u4,u5⟩⟩,0)):Tree (WrM×Int)).exec s1:=by
   rw[Hres2.out,if_neg (by decide),hx]
  rw[Tree.exec_bind]at hres;obtain⟨b0,o0,rfl,hkb,g1⟩:=SlAt.rec (SegM.len3 segs) Hsl.out pi.toNat x hx;have hblk:=hD1.kp.block b0 hkb;have a0:=(World.cell?_of_block (a:=⟨b0,o0+pi.toNat*3+0,none⟩) hblk).trans (g1 0 _ rfl);have a1:=(World.cell?_of_block (a:=⟨b0,o0+pi.toNat*3+1,none⟩) hblk).trans (g1 1 _ rfl);have a2:=(World.cell?_of_block (a:=⟨b0,o0+pi.toNat*3+2,none⟩) hblk).trans (g1 2 _ rfl)
  simp only[Nat.add_zero]at a0;have hBase:=fun W'=>write_base x W' (by unfold Small;omega)
  have hpdS:Small pd:=by unfold Small;omega
  obtain⟨p,rfl⟩:=Int.eq_ofNat_of_zero_le hpi0;simp only[Int.toNat_natCast]at a0 a1 a2 hpi1;have hpI:(p:Int)<(segs.length:Int):=by omega
  obtain⟨xa,xd,xs⟩:=x;dsimp only at a0 a1 a2 hBase hres x0 x1 x2 hpd1;generalize SegM.base ⟨xa,xd,xs⟩=bs at*;have hrow:=fun W' (hR:RM W' (fun b=>K b∨(B≤b∧b<B+1+1+1)) r m c s1)=>table_row hR bs pd hbs hpdS;generalize (rowT bs pd).exec s1=fr at*;obtain⟨⟨rb,ri,rl,rt⟩,s2⟩:=fr;have hres:res=(if s2.isOff=true∨rt≠0 then .ret (⟨segs,wt,wv,⟨u0,u1,u2,u3,u4,u5⟩⟩,7)else
   (killT bs pd (wv+1)).bind fun _=> .store 1 (wv+1) (.ret (⟨segs,wt,wv+1,⟨u0,u1,u2,u3,u4,u5⟩⟩,0)):Tree (WrM×Int)).exec s2:=hres
  have zz63:=@c360;exact c358
end Go.Proofs.YtogdknnkhkjmcaaGreatDoor
