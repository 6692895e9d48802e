/- Contracts: mem.Cells; Same of the first reference. -/
import Derived.Test.YtogdknnkhkjmcaaGreatDoorDictP
namespace Go.Proofs.YtogdknnkhkjmcaaGreatDoor
open Go.RowKit
set_option linter.all false
theorem Tryz.sizeU:(Tryz.prog.info? 32).map (·.size)=some 1:=by kernel_rfl
set_option maxRecDepth 100000 in
set_option maxHeartbeats 400000 in
theorem mem_cells {w:World}{m c:Nat}{μ:MemS}(h:MemAt w m c μ):
  Calls Tryz.prog 20 #[.pointer (some ⟨m,0,none⟩)] w fun e w'=>
   e= .returned (.slice (some ⟨w.heap.size,0,none⟩) μ.cells.length μ.cells.length)∧Blk w' w.heap.size (μ.cells.map (Value.int .u32))∧Keeps (· <w.heap.size) w w':=by
 have hs:=h.small;have c0:=h.obj.cell 0;have c1:=h.obj.cell 1;have hlt:=h.obj.lt;simp only[List.getElem?_cons_zero,List.getElem?_cons_succ]at c0 c1;have hmk:=fun w=>run_make_row' (P:=Tryz.prog) 47 32 (J 0) 4 Tryz.underlying47 Tryz.infoU rfl .i64 .i64 μ.cells.length (by omega) (by omega) w
 have hb0:=made_blk w (J 0) μ.cells.length 32;have hcw:=h.cells.alloc (.cells (madeCells #[J 0] μ.cells.length) 32);have hhg:(w.alloc (.cells (madeCells #[J 0] μ.cells.length) 32)).heap[w.heap.size]? =some (.cells (List.replicate μ.cells.length (J 0)).toArray 32 (0,0)):=by
  have e:madeCells #[J 0] μ.cells.length=(List.replicate μ.cells.length (J 0)).toArray:=by
   apply Array.ext';rw[toList_madeCells_one]
  rw[e];exact heap_alloc_new w _
 have HG:=hid hhg;have HC:=hid hcw;have HN:=hid (show(μ.cells.map (Value.int .u32)).length=μ.cells.length from List.length_map ..)
 clear h hb0 hcw hhg;refine calls_hide fun R' hR'=>?_
 go_enter Tryz.func20,Tryz.ntmps20
 go_wp2_with (with_reducible refine wpList_copy_splice rfl (.tmp 12) (.tmp 16) 47 47 rfl 32 Tryz.underlying47 Tryz.sizeU _ _ _ _ _ _ rfl rfl w.heap.size 0 (List.replicate μ.cells.length (J 0)) 32 HG.out (μ.cells.map (Value.int .u32)) ?hn ?hpos ?hfit ?h1 w.heap.size w ?hb (Nat.le_refl _) ?_)
 case hn=>rw[HN.out];simp
 case hpos=>intro _ j x hj;rw[HC.out.cell,List.getElem?_map,hj];rfl
 case hfit=>simp
 case h1=>intro u hu;obtain⟨x,_,rfl⟩:=List.mem_map.1 hu;rfl
 case hb=>exact(Below.refl _ _).alloc (Nat.le_refl _) _
 exact c136
set_option maxRecDepth 100000 in
set_option maxHeartbeats 1000000 in
theorem same_any {w:World}{K:Nat→Prop}{xs ys:List Int}{va vb:Value}(ha:SlAt w K 1 va xs.length (xs.map (Value.int .u32)))(hb:SlAt w K 1 vb ys.length (ys.map (Value.int .u32))):
  Calls Tryz.prog 26 #[va,vb] w fun e w'=>e= .returned (.bool (decide (xs=ys)))∧∃n,w.drewN n=w':=by
 have HA:=hid ha;have HB:=hid hb;obtain⟨A,ca,rfl,h1,h2⟩:=ha.form;obtain⟨B,cb,rfl,h3,h4⟩:=hb.form;unfold maxLen at h2 h4;clear ha hb;refine calls_hide fun R' hR'=>?_
 by_cases hl:xs.length=ys.length
 ·have hbf:((xs.length:Int) !=(ys.length:Int))=false:=by simp[hl]
  have HL:=hid hl;clear hl
  go_enter Tryz.func26,Tryz.ntmps26
  go_wp2_with fail
  go_loopw[13] (fun i wr=>∃k n:Nat,i=I k∧k≤xs.length∧w.drewN n=wr∧xs.take k=ys.take k) (fun i _=>xs.length-(intOf i).toNat)
  case atStart=>exact⟨0,0,rfl,Nat.zero_le _,rfl,rfl⟩
  case round=>
   obtain⟨k,n,rfl,hk,hw,htk⟩:=hrel;have HT:=hid htk;have HW:=hid hw;clear htk hw
   by_cases hlt:k<xs.length
   ·obtain⟨b1,o1,c1,e1,_,x1⟩:=HA.out.get k xs[k] (List.getElem?_eq_getElem hlt);obtain⟨b2,o2,c2,e2,_,x2⟩:=HB.out.get k (ys[k]'(by have:=HL.out;omega)) (List.getElem?_eq_getElem _)
    injection e1 with e1 _ e1'
    injection e2 with e2 _ e2'
    subst e1 e1' e2 e2';have y1:wr.cell? ⟨b1,o1+k,none⟩=some (J xs[k]):=by rw[←HW.out];exact x1
    have y2:wr.cell? ⟨b2,o2+k,none⟩=some (J (ys[k]'(by have:=HL.out;omega))):=by rw[←HW.out];exact x2
    have hlt2:k<ys.length:=by have:=HL.out;omega
    have i1:(k:Int)<(xs.length:Int):=by omega
    have i2:(k:Int)<(ys.length:Int):=by omega
    generalize hx:xs[k]=x at*;generalize hy:ys[k]=y at*;have HX:=hid hx;have HY:=hid hy;clear hx hy x1 x2
    by_cases hxy:x=y
    ·have hb:(x !=y)=false:=by simp[hxy]
     have HXY:=hid hxy;clear hxy
     go_wp2_with fail
     go_quiet (fail)
     go_wp2_with fail
     go_roundw
     case rel=>exact⟨k+1,n+nq,by go_num,by omega,by rw[←HW.out];simp[World.drewN,Nat.add_assoc],by
      rw[List.take_succ_eq_append_getElem hlt,List.take_succ_eq_append_getElem hlt2,HT.out,HX.out,HY.out,HXY.out]⟩
     case measure=>simp[intOf];omega
    ·have hb:(x !=y)=true:=by simp[hxy]
     have HXY:=hid hxy;clear hxy
     go_wp2_with fail
     go_quiet (fail)
     go_wp2_with fail
     refine hR'.out _ _ ⟨?_,n+nq,by rw[←HW.out];simp[World.drewN,Nat.add_assoc]⟩
     have:xs≠ys:=fun e=>HXY.out (by rw[←HX.out,←HY.out];simp[e])
     simp[this]
   ·have hkl:k=xs.length:=by omega
    subst hkl
    go_wp2_with fail
    refine hR'.out _ _ ⟨?_,n,HW.out⟩;have:xs=ys:=by have:=HT.out;rw[List.take_length,HL.out,List.take_length]at this;exact this
    simp[this]
 ·have hbf:((xs.length:Int) !=(ys.length:Int))=true:=by simp;omega
  have HL:=hid hl;clear hl
  go_enter Tryz.func26,Tryz.ntmps26
  go_wp2_with fail
  refine hR'.out _ _ ⟨?_,0,rfl⟩;have:xs≠ys:=fun e=>HL.out (by rw[e])
  simp[this]
def homeD (n:Nat)(l:List Int):Nat:=(hashL l).toNat%n
section
variable {s0:Int}{n h f i:Nat}{C:List Int}{len:Int}{s s1 s2:St}{x y:Int}
theorem findD_off (e:s.load (s0+(((h+i)%n:Nat):Int))=(x,s1))(ho:s1.isOff=true):(findD s0 n h C len (f+1) i).exec s=((0,-1),s1):=by
 show(if(s.load (s0+(((h+i)%n:Nat):Int))).2.isOff=true then Tree.ret (0,-1)else _:Tree (Int×Int)).exec (s.load (s0+(((h+i)%n:Nat):Int))).2=_
 rw[e,if_pos ho];rfl
theorem findD_zero (e:s.load (s0+(((h+i)%n:Nat):Int))=(0,s1))(ho:s1.isOff=false):(findD s0 n h C len (f+1) i).exec s=((0,(((h+i)%n:Nat):Int)),s1):=by
 have zz61:=@c348;exact c347
def contD (s0:Int)(n h:Nat)(C:List Int)(len:Int)(f i:Nat)(x:Int)(ok:Bool):Tree (Int×Int):=if ok=true then .ret (x,(((h+i)%n:Nat):Int))else findD s0 n h C len f (i+1)
theorem findD_len (e:s.load (s0+(((h+i)%n:Nat):Int))=(x,s1))(ho:s1.isOff=false)(hx:x≠0)(e2:s1.load (x+1)=(y,s2))(hy:y≠len):
  (findD s0 n h C len (f+1) i).exec s=(findD s0 n h C len f (i+1)).exec s2:=by
 have zz61:=@c349;exact c347
theorem findD_cmp (e:s.load (s0+(((h+i)%n:Nat):Int))=(x,s1))(ho:s1.isOff=false)(hx:x≠0)(e2:s1.load (x+1)=(len,s2)):
  (findD s0 n h C len (f+1) i).exec s=((cmpD x C 0).bind (contD s0 n h C len f i x)).exec s2:=by
 have zz61:=@c350;exact c347
theorem cmpD_no {a c:Int}{L:List Int}{k:Nat}{F:Bool→Tree (Int×Int)}(e:s.load (a+2+k)=(x,s1))(hx:x≠c):((cmpD a (c::L) k).bind F).exec s=(F false).exec s1:=by
 show((if(s.load (a+2+k)).1≠c then Tree.ret false else _).bind F).exec (s.load (a+2+k)).2=_
 rw[e,if_pos hx];rfl
theorem cmpD_halt {a c:Int}{L:List Int}{k:Nat}{F:Bool→Tree (Int×Int)}(e:s.load (a+2+k)=(c,s1))(ho:s1.isOff=true):((cmpD a (c::L) k).bind F).exec s=(F false).exec s1:=by
 show((if(s.load (a+2+k)).1≠c then Tree.ret false else .off fun o=>if o=true then .ret false else cmpD a L (k+1)).bind F).exec (s.load (a+2+k)).2=_
 rw[e,if_neg (by simp)]
 show((if s1.isOff=true then Tree.ret false else cmpD a L (k+1)).bind F).exec s1=_
 rw[if_pos ho];rfl
theorem cmpD_yes {a c:Int}{L:List Int}{k:Nat}{F:Bool→Tree (Int×Int)}(e:s.load (a+2+k)=(c,s1))(ho:s1.isOff=false):((cmpD a (c::L) k).bind F).exec s=((cmpD a L (k+1)).bind F).exec s1:=by
 show((if(s.load (a+2+k)).1≠c then Tree.ret false else .off fun o=>if o=true then .ret false else cmpD a L (k+1)).bind F).exec (s.load (a+2+k)).2=_
 rw[e,if_neg (by simp)]
 show((if s1.isOff=true then Tree.ret false else cmpD a L (k+1)).bind F).exec s1=_
 rw[if_neg (by rw[ho];decide)]
end
set_option maxRecDepth 100000 in
set_option maxHeartbeats 2000000 in
theorem dict_find {w:World}{K:Nat→Prop}{r m c:Nat}{s:St}(h:RM w K r m c s)(s0:Int)(n:Nat)(t:ByteArray)(hs:0≤s0∧s0≤65536)(hn:1≤n∧n≤65536)(ht:t.size≤140737488351232):
  Calls Tryz.prog 75 #[.pointer (some ⟨r,0,none⟩),I s0,I n,.string t] w fun e w'=>
   e= .returned (.tuple #[I ((findD s0 n (homeD n (bsL t)) (packC (bsL t)) t.size n 0).exec s).1.1,I ((findD s0 n (homeD n (bsL t)) (packC (bsL t)) t.size n 0).exec s).1.2])∧
    RM w' K r m c ((findD s0 n (homeD n (bsL t)) (packC (bsL t)) t.size n 0).exec s).2∧Keeps K w w':=by
 obtain⟨s00,s01⟩:=hs;obtain⟨n0,n1⟩:=hn;have hhr:=hash_range (bsL t);have hpl:(packC (bsL t)).length=(t.size+3)/4:=by rw[packC_len,bsL_len]
 have hpr:=packC_range (l:=bsL t) (fun x hx=>bsL_range t x hx);have hhome:homeD n (bsL t)<n:=Nat.mod_lt _ (by omega)
 have hhe:hashL (bsL t)%(n:Int)=(homeD n (bsL t):Int):=by unfold homeD;rw[Int.natCast_emod,Int.toNat_of_nonneg hhr.1]
 generalize homeD n (bsL t)=ho at*;generalize hres:(findD s0 n ho (packC (bsL t)) t.size n 0).exec s=res;generalize hC:packC (bsL t)=C at*;have H:=hid h;have Hres:=hid hres;have Hpl:=hid hpl;have Hpr:=hid hpr;have Hhe:=hid hhe;have HC:=hid hC;clear h hres hpl hpr hhe hC;refine calls_hide fun R' hR'=>?_
 go_enter Tryz.func75,Tryz.ntmps75
 go_wp2_with fail
 go_step3
 go_wp2_with fail
 refine(pack_cells t ht w).mono ?_;rintro e w1 ⟨rfl,hB1,hk1⟩;have hK1:=H.out.moreB hk1;have hz1:=hk1.size;have HK1:=hid hK1;clear hK1
 go_wp2_with fail
 refine(pack_hash t ht _).mono ?_;rintro e w2 ⟨rfl,rfl⟩
 go_wp2_with fail
 have hww:wrap64 (hashL (bsL t)%(n:Int))=(ho:Int):=by rw[Hhe.out];unfold wrap64;omega
 rw[hww];clear hww hhr;generalize hK1d:(fun b=>K b∨(w.heap.size≤b∧b<w1.heap.size))=K1 at*;have hKK:∀b,K b→K1 b:=by intro b hb;rw[←hK1d];exact Or.inl hb
 have hb1K:K1 w.heap.size:=by rw[←hK1d];exact Or.inr ⟨Nat.le_refl _,hB1.lt⟩
 have hkw:Keeps K w w1:=hk1.mono H.out.lt;generalize w.heap.size=b1 at*;have HK1d:=hid hK1d;have HKK:=hid hKK;have Hb1K:=hid hb1K;have Hkw:=hid hkw;have HB1:=hid hB1;have Hz1:=hid hz1;clear hK1d hKK hb1K hkw hB1 hz1;clear hk1
 go_step3
 go_wp2_with fail
 go_loopw[29] (fun i wr=>∃(k:Nat) (s':St),i=I k∧k≤n∧RM wr K1 r m c s'∧Keeps K1 w1 wr∧(findD s0 n ho C t.size (n-k) k).exec s'=res) (fun i _=>n-(intOf i).toNat)
 case atStart=>exact⟨0,s,rfl,Nat.zero_le _,HK1.out,Keeps.refl _ _,Hres.out⟩
 case round=>
  obtain⟨k,s',rfl,hk,hR,hK,hex⟩:=hrel;have HR:=hid hR;have HK:=hid hK;clear hR hK
  by_cases hlt:k<n
  ·have e:n-k=(n-(k+1))+1:=by omega
   rw[e]at hex;have zz68:=@c381;exact c380
  ·have hkn:n-k=0:=by omega
   rw[hkn]at hex;have hfin:((0,-1),s')=res:=hex;clear hex;have Hfin:=hid hfin;have Hkn:=hid hkn;clear hfin hkn
   go_wp2_with fail
   refine hR'.out _ _ ⟨by rw[←Hfin.out];rfl,by rw[←Hfin.out];exact HR.out.mono HKK.out,Hkw.out.trans (HK.out.mono HKK.out)⟩
set_option maxHeartbeats 400000 in
theorem dict_tail {w:World}{K:Nat→Prop}{r m c:Nat}{s:St}(h:RM w K r m c s)(a:Int):
  Calls Tryz.prog 76 #[.pointer (some ⟨r,0,none⟩),I a] w fun e w'=>e= .returned (I (s.load a).1)∧RM w' K r m c (s.load a).2∧Keeps K w w':=by
 have hu:=h.load_u32 a;have H:=hid h;clear h;refine calls_hide fun R' hR'=>?_
 go_enter Tryz.func76,Tryz.ntmps76
 go_wp2_with fail
 refine(step_load H.out a).mono ?_;rintro e w1 ⟨rfl,hr1,hk1⟩;obtain⟨u0,u1⟩:=hu;have Hr1:=hid hr1;have Hk1:=hid hk1;clear hr1 hk1;generalize hls:s.load a=ls at*;have Hls:=hid hls;clear hls
 go_wp2_with fail
 exact hR'.out _ _ ⟨rfl,Hr1.out,Hk1.out⟩
set_option maxHeartbeats 400000 in
theorem dict_setTail {w:World}{K:Nat→Prop}{r m c:Nat}{s:St}(h:RM w K r m c s)(a v:Int)(hv:U32 v):
  Calls Tryz.prog 84 #[.pointer (some ⟨r,0,none⟩),I a,I v] w fun e w'=>e= .returned (.tuple #[])∧RM w' K r m c (s.store a v)∧Keeps K w w':=by
 obtain⟨v0,v1⟩:=hv;have H:=hid h;clear h;refine calls_hide fun R' hR'=>?_
 go_enter Tryz.func84,Tryz.ntmps84
 go_wp2_with fail
 refine(step_store H.out a v ⟨v0,v1⟩).mono ?_;rintro e w1 ⟨rfl,hr1,hk1⟩;have Hr1:=hid hr1;have Hk1:=hid hk1;clear hr1 hk1
 go_wp2_with fail
 go_end0
 exact hR'.out _ _ ⟨rfl,Hr1.out,Hk1.out⟩
set_option maxRecDepth 100000 in
set_option maxHeartbeats 2000000 in
theorem dict_put_full {w:World}{K:Nat→Prop}{r m c:Nat}{s:St}(h:RM w K r m c s)(p:PlanM)(u:V6)(s0 sl:Int)(t:ByteArray)(ht:t.size≤1000)
  (h0:0≤u.a4) (hu:u.a4≤p.size.a4) (h2:p.size.a4<u.a4+(2+((t.size+3)/4:Nat))) (h3:p.size.a4≤65536):
  Calls Tryz.prog 81 #[.pointer (some ⟨r,0,none⟩),p.val,u.val,I s0,I sl,.string t] w fun e w'=>
   e= .returned (.tuple #[I 0,V6.val ⟨0,0,0,0,0,0⟩,I 3])∧RM w' K r m c s∧Keeps K w w':=by
 have H:=hid h;clear h;have hP:=hid (take_full p u (2+((t.size+3)/4:Nat)));have zz19:=@c209;exact c208
set_option maxRecDepth 100000 in
set_option maxHeartbeats 4000000 in
theorem dict_put {w:World}{K:Nat→Prop}{r m c:Nat}{s:St}(h:RM w K r m c s)(p:PlanM)(u:V6)(s0 sl:Int)(t:ByteArray)(ht:t.size≤1000)
  (h0:0≤u.a4) (h2:u.a4+(2+((t.size+3)/4:Nat))≤p.size.a4) (h3:p.size.a4≤65536) (hpb:0≤p.base.a4∧p.base.a4≤65536) (hs0:0≤s0∧s0≤65536) (hsl: -1≤sl∧sl≤65536):
  Calls Tryz.prog 81 #[.pointer (some ⟨r,0,none⟩),p.val,u.val,I s0,I sl,.string t] w fun e w'=>
   e= .returned (.tuple #[I (p.base.a4+u.a4),V6.val { u with a4:=u.a4+(2+((t.size+3)/4:Nat)) },I 0])∧
    RM w' K r m c ((putD (p.base.a4+u.a4) (s0+sl) t.size (packC (bsL t))).exec s).2∧Keeps K w w':=by
 obtain⟨b0,b1⟩:=hpb;obtain⟨s00,s01⟩:=hs0;obtain⟨l00,l01⟩:=hsl;have hpl:(packC (bsL t)).length=(t.size+3)/4:=by rw[packC_len,bsL_len]
 have hpr:=packC_range (l:=bsL t) (fun x hx=>bsL_range t x hx);generalize hC:packC (bsL t)=C at*;generalize hres:(putD (p.base.a4+u.a4) (s0+sl) t.size C).exec s=res;have H:=hid h;have Hpl:=hid hpl;have Hpr:=hid hpr;have HC:=hid hC;have Hres:=hid hres;clear h hpl hpr hC hres;have zz19:=@c210;exact c208
def BlkN (w:World)(b n:Nat):Prop:=∃l,Blk w b l∧l.length=n
theorem BlkN.of6 {w:World}{b:Nat}{v0 v1 v2 v3 v4 v5:Value}(h:Blk w b [v0,v1,v2,v3,v4,v5]):BlkN w b 6:=⟨_,h,rfl⟩
theorem BlkN.set_ne {w:World}{b n:Nat}(h:BlkN w b n){a:Addr}(v:Value)(hb:b≠a.block):BlkN (w.setCell a v) b n:=let ⟨l,h1,h2⟩:=h;⟨l,h1.set_ne v hb,h2⟩
theorem BlkN.set6 {w:World}{b:Nat}(h:BlkN w b 6)(v0 v1 v2 v3 v4 v5:Value):
  Blk ((((((w.setCell ⟨b,0,none⟩ v0).setCell ⟨b,1,none⟩ v1).setCell ⟨b,2,none⟩ v2).setCell ⟨b,3,none⟩ v3).setCell ⟨b,4,none⟩ v4).setCell ⟨b,5,none⟩ v5) b [v0,v1,v2,v3,v4,v5]:=by
 obtain⟨l,h1,h2⟩:=h;exact h1.set6 v0 v1 v2 v3 v4 v5 h2
def PTab (w:World):Prop:=w.cell? ⟨0,0,none⟩=some (.int .i64 4)∧w.cell? ⟨0,1,none⟩=some (.int .i64 16)∧w.cell? ⟨0,2,none⟩=some (.int .i64 64)∧w.cell? ⟨0,3,none⟩=some (.int .i64 256)∧0<w.heap.size
theorem PTab.keep {w w':World}{K:Nat→Prop}(h:PTab w)(k:Keeps K w w')(h0:K 0):PTab w':=by
 obtain⟨h1,h2,h3,h4,h5⟩:=h;have e:=fun i=>World.cell?_of_block (a:=⟨0,i,none⟩) (k.block 0 h0);exact⟨(e 0).trans h1,(e 1).trans h2,(e 2).trans h3,(e 3).trans h4,Nat.lt_of_lt_of_le h5 k.size⟩
def szK:Nat→Int
 |0=>4
 |1=>16
 |2=>64
 |_=>256
def PlanM.bK (p:PlanM):Nat→Int
 |0=>p.base.a0
 |1=>p.base.a1
 |2=>p.base.a2
 |_=>p.base.a3
def PlanM.sK (p:PlanM):Nat→Int
 |0=>p.size.a0
 |1=>p.size.a1
 |2=>p.size.a2
 |_=>p.size.a3
def PlanM.has (p:PlanM)(k:Nat)(a:Int):Prop:=p.bK k≤a∧a-p.bK k<p.sK k
instance (p:PlanM)(k:Nat)(a:Int):Decidable (p.has k a):=by unfold PlanM.has;infer_instance
def PlanM.cls (p:PlanM)(a:Int):Int×Int:=
 if p.has 0 a then(0,(a-p.bK 0)%4)else if p.has 1 a then(1,(a-p.bK 1)%16)else if p.has 2 a then(2,(a-p.bK 2)%64)else if p.has 3 a then(3,(a-p.bK 3)%256)else(-1,0)
structure PlanM.Wf (p:PlanM):Prop where
 b:∀k,0≤p.bK k∧p.bK k≤65536
 s:∀k,0≤p.sK k∧p.sK k≤65536
theorem PlanM.cls_at (p:PlanM)(a:Int)(k:Nat)(hk:k≤3)(h0:∀j,j<k→¬p.has j a)(h:p.has k a):p.cls a=((k:Int),(a-p.bK k)%szK k):=by
 unfold PlanM.cls
 match k,hk with
 |0,_=>rw[if_pos h];rfl
 |1,_=>rw[if_neg (h0 0 (by omega)),if_pos h];rfl
 |2,_=>rw[if_neg (h0 0 (by omega)),if_neg (h0 1 (by omega)),if_pos h];rfl
 |3,_=>rw[if_neg (h0 0 (by omega)),if_neg (h0 1 (by omega)),if_neg (h0 2 (by omega)),if_pos h];rfl
theorem PlanM.cls_none (p:PlanM)(a:Int)(h:∀j,j<4→¬p.has j a):p.cls a=(-1,0):=by
 unfold PlanM.cls;rw[if_neg (h 0 (by omega)),if_neg (h 1 (by omega)),if_neg (h 2 (by omega)),if_neg (h 3 (by omega))]
theorem Tryz.idx0 (w:World):(Instr.index 22 (.agg #[I 4,I 16,I 64,I 256]) (I 0)).run Tryz.prog w= .ok (I 4) w:=by kernel_rfl
theorem Tryz.idx1 (w:World):(Instr.index 22 (.agg #[I 4,I 16,I 64,I 256]) (I 1)).run Tryz.prog w= .ok (I 16) w:=by kernel_rfl
theorem Tryz.idx2 (w:World):(Instr.index 22 (.agg #[I 4,I 16,I 64,I 256]) (I 2)).run Tryz.prog w= .ok (I 64) w:=by kernel_rfl
theorem Tryz.idx3 (w:World):(Instr.index 22 (.agg #[I 4,I 16,I 64,I 256]) (I 3)).run Tryz.prog w= .ok (I 256) w:=by kernel_rfl
set_option maxRecDepth 100000 in
set_option maxHeartbeats 4000000 in
theorem class_call (p:PlanM)(a:Int)(w:World)(hp:p.Wf)(ht:PTab w)(ha: -9223372036854775808≤a∧a≤9223372036854775807):
  Calls Tryz.prog 104 #[p.val,I a] w fun e w'=>e= .returned (.tuple #[I (p.cls a).1,I (p.cls a).2])∧Keeps (· <w.heap.size) w w':=by
 obtain⟨ha0,ha1⟩:=ha;obtain⟨t0,t1,t2,t3,t4⟩:=ht;have HCA:=hid (p.cls_at a);have HCN:=hid (p.cls_none a);have HWF:=hid hp;clear hp;refine calls_hide fun R' hR'=>?_;unfold PlanM.val
 go_enter Tryz.func104,Tryz.ntmps104
 go_wp2_with fail
 have hb0:Blk (w.alloc (.cells p.flat.toArray 42)) w.heap.size p.flat:=Blk.new w p.flat _;have hk0:Keeps (· <w.heap.size) w (w.alloc (.cells p.flat.toArray 42)):=(Keeps.refl _ _).alloc (fun b hb=>hb) _;change Code.wp _ _ _ _ (w.alloc (.cells p.flat.toArray 42));generalize w.alloc (.cells p.flat.toArray 42)=w0 at*;generalize hB:w.heap.size=B at*;have Hb0:=hid hb0;have Hk0:=hid hk0
 have HB:=hid hB;clear hb0 hk0 hB;clear t0 t1 t2 t3 t4
 go_loopw[9] (fun vi wr=>∃k q:Nat,vi=I (k:Int)∧k≤4∧w0.drewN q=wr∧Hid (∀j,j<k→¬p.has j a)) (fun i _=>4-(intOf i).toNat)
 case atStart=>exact⟨0,0,rfl,by omega,rfl,hid fun j h=>by omega⟩
 case round=>
  obtain⟨k,q,rfl,hk,hw,HN⟩:=hrel;have Hw:=hid hw;clear hw;have hblk:Blk wr B p.flat:=by rw[←Hw.out];exact Hb0.out.drewN q
  by_cases hk4:k<4
  ·have hcases:k=0∨k=1∨k=2∨k=3:=by omega
   clear hk hk4
   rcases hcases with rfl|rfl|rfl|rfl
   ·have hix:=Tryz.idx0;have c1:=hblk.cell 0;have zz128:=@c645;exact c644
   ·have hix:=Tryz.idx1;have c1:=hblk.cell 1;have zz129:=@c648;exact c647
   ·have hix:=Tryz.idx2;have c1:=hblk.cell 2;have zz130:=@c651;exact c650
   ·have hix:=Tryz.idx3;have c1:=hblk.cell 3;have zz131:=@c654;exact c653
  ·have hk':k=4:=by omega
   subst hk';clear hblk
   go_wp2_with fail
   refine hR'.out _ _ ⟨?_,?_⟩
   ·rw[HCN.out HN.out];rfl
   ·rw[←Hw.out];exact Hk0.out.drewN q
set_option maxRecDepth 100000 in
set_option maxHeartbeats 400000 in
theorem slab_call (k:Nat)(hk:k≤3)(w:World)(ht:PTab w):Calls Tryz.prog 105 #[I (k:Int)] w fun e w'=>e= .returned (I (szK k))∧w'=w:=by
 obtain⟨t0,t1,t2,t3,t4⟩:=ht;have hcases:k=0∨k=1∨k=2∨k=3:=by omega
 clear hk;refine calls_hide fun R' hR'=>?_
 rcases hcases with rfl|rfl|rfl|rfl
 all_goals
  go_enter Tryz.func105,Tryz.ntmps105
  go_wp2_with fail
  refine(between_yes _ _ _ _ (by omega)).mono ?_
  rintro e w' ⟨rfl,rfl⟩
  go_wp2_with fail
  exact hR'.out _ _ ⟨rfl,rfl⟩
def PlanM.next (p:PlanM)(t:Int):Int×Bool:=
 if t=0 then(0,true)else if(p.cls t).1<0∨(p.cls t).2=0 then(0,false)
 else if(p.cls t).2=szK (p.cls t).1.toNat-1 then(if(p.cls t).1+1≤3 then(p.cls t).1+1 else 3,true)else(-1,true)
theorem PlanM.cls_range (p:PlanM)(a:Int):(p.cls a).1= -1∨∃k:Nat,k≤3∧(p.cls a).1=(k:Int):=by
 unfold PlanM.cls
 split
 ·exact Or.inr ⟨0,by omega,rfl⟩
 ·split
  ·exact Or.inr ⟨1,by omega,rfl⟩
  ·split
   ·exact Or.inr ⟨2,by omega,rfl⟩
   ·split
    ·exact Or.inr ⟨3,by omega,rfl⟩
    ·exact Or.inl rfl
set_option maxRecDepth 100000 in
set_option maxHeartbeats 2000000 in
theorem next_call (p:PlanM)(t:Int)(w:World)(hp:p.Wf)(ht:PTab w)(ha: -9223372036854775808≤t∧t≤9223372036854775807):
  Calls Tryz.prog 103 #[p.val,I t] w fun e w'=>e= .returned (.tuple #[I (p.next t).1,.bool (p.next t).2])∧Keeps (· <w.heap.size) w w':=by
 have HT:=hid ht;have HP:=hid hp;have HA:=hid ha;clear hp ht ha;refine calls_hide fun R' hR'=>?_;unfold PlanM.next at hR'
 by_cases h0:t=0
 ·subst h0;rw[if_pos rfl]at hR';unfold PlanM.val
  go_enter Tryz.func103,Tryz.ntmps103
  go_wp2_with fail
  exact hR'.out _ _ ⟨rfl,(Keeps.refl _ _).alloc (fun b hb=>hb) _⟩
 ·rw[if_neg h0]at hR';have g0:(t==0)=false:=by simpa using h0
  have hr:=p.cls_range t;have hcall:=fun w hw=>class_call p t w HP.out hw HA.out;generalize p.cls t=r at*;obtain⟨r1,r2⟩:=r;simp only at hr hR';unfold PlanM.val at*
  go_enter Tryz.func103,Tryz.ntmps103
  go_wp2_with fail
  have hk0:Keeps (· <w.heap.size) w (w.alloc (.cells p.flat.toArray 42)):=(Keeps.refl _ _).alloc (fun b hb=>hb) _;refine calls_gen (fun W=>Keeps (· <w.heap.size) w W) hk0 (fun W hW=>?_);refine(hcall W (HT.out.keep hW HT.out.2.2.2.2)).mono ?_;rintro e w1 ⟨rfl,hk1⟩;have HK:=hid (hW.trans (hk1.mono fun b hb=>by have:=hW.size;omega))
  have HT1:=hid (HT.out.keep HK.out HT.out.2.2.2.2);clear hcall hk0 hW hk1
  rcases hr with rfl|⟨k,hk,rfl⟩
  ·rw[if_pos (Or.inl (by omega))]at hR'
   exact c113
  ·have g1:decide ((k:Int)<0)=false:=decide_eq_false (by omega)
   by_cases h2:r2=0
   ·subst h2;rw[if_pos (Or.inr rfl)]at hR';exact c113
   ·have g2:(r2==0)=false:=by simpa using h2
    rw[if_neg (by rintro(h|h);omega;exact h2 h),show((k:Int)).toNat=k from by omega]at hR'
    have HKL:=hid hk;clear h2
    go_wp2_with fail
    refine(slab_call k HKL.out w1 HT1.out).mono ?_;rintro e w2 ⟨rfl,rfl⟩;have hsz:szK k≤256∧4≤szK k:=by
     exact c127
    generalize szK k=z at*;obtain⟨z1,z2⟩:=hsz
    by_cases h3:r2=z-1
    ·rw[if_pos h3]at hR';have g3:(r2==z-1)=true:=by simpa using h3
     have HN:=hid h3;clear h3
     by_cases h4:(k:Int)+1≤3
     ·rw[if_pos h4]at hR';have g4:(k:Int)+1<3∨(k:Int)+1=3:=by omega
      have hmin:min ((k:Int)+1) 3=(k:Int)+1:=Int.min_eq_left h4;exact c113
     ·rw[if_neg h4]at hR';have hmin:min ((k:Int)+1) 3=3:=Int.min_eq_right (by omega)
      exact c113
    ·rw[if_neg h3]at hR';have g3:(r2==z-1)=false:=by simpa using h3
     clear h3;exact c113
end Go.Proofs.YtogdknnkhkjmcaaGreatDoor
