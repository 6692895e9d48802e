/- The statement on WritePlays, and its card: the call returns true and leaves what it was handed as it was. -/
import Derived.Test.YtogdknnkhkjmcaaGreatDoorKLwO
import Derived.Test.YtogdknnkhkjmcaaGreatDoorCards
import Derived.Test.YtogdknnkhkjmcaaGreatDoorTie
import Derived.WalkKit
import Derived.ProofKit
import Derived.OpenShut
import Derived.Deep.DeepHandedRow
import Derived.Lib.LaidTab
namespace Go.Proofs.YtogdknnkhkjmcaaGreatDoor
open Go.RowKit
set_option linter.all false
set_option maxRecDepth 100000 in
set_option maxHeartbeats 4000000 in
theorem law_plays (C:ConfM)(ops:List OpV)(A:Option Addr)(c:Nat)(w:World)(hT:PTab w)(hF:FoldTab w)(hsl:SlAt w (· <w.heap.size) 3 (.slice A ops.length c) ops.length (ops.flatMap OpV.cells))(ho:∀o∈ops,o.ok w (· <w.heap.size)):
  Z 3 #[.agg C.list.toArray,.slice A ops.length c] w fun e w'=>e= .returned (.bool true)∧Keeps (· <w.heap.size) w w':=by
 have hbeg:=law_begin C w w hT (Keeps.refl _ _);have hfix:=fun W (hk:Keeps (· <w.heap.size) w W)=>law_fixed (w0:=w) (w:=W) hT hF hk;have hlig:=fun W (hk:Keeps (· <w.heap.size) w W)=>law_light ops A c W (· <w.heap.size) (fun b hb=>Nat.lt_of_lt_of_le hb hk.size) (hsl.keep hk fun b hb=>hb) (fun o h=>(ho o h).keep hk fun b hb=>hb);obtain⟨A',cap,e1,e2,e3,e4,e5⟩:=hsl
 injection e1 with e1 _ e1c
 subst e1 e1c;have H5:=hid e5;have HO:=hid ho;have HT:=hid hT;have HF:=hid hF;have HFIX:=hid hfix;have HLIG:=hid hlig;obtain⟨docs,terms,q0,q1,q2,q3,book,room,kk,bb,hcfe⟩:∃docs terms q0 q1 q2 q3 book room kk bb,C=⟨docs,terms,q0,q1,q2,q3,book,room,kk,bb⟩:=⟨_,_,_,_,_,_,_,_,_,_,rfl⟩;have hcli:C.list=[I docs,I terms,I q0,I q1,I q2,I q3,I book,I room,kk,bb]:=by rw[hcfe];rfl
 rw[hcli]at hbeg ⊢;have HBEG:=hid hbeg;clear hT hF ho e3 e4 e5 hfix hlig hbeg hcli hcfe;refine calls_hide fun R' hR'=>?_
 go_enter Tryz.func3,Tryz.ntmps3
 go_wp2_with fail
 refine calls_gen (fun W0=>Keeps (· <w.heap.size) w W0) ((Keeps.refl _ _).alloc (fun b hb=>hb) _) (fun w1 hk1=>?_);have hT1:=HT.out.keep (K:=(· <w.heap.size)) hk1 HT.out.2.2.2.2
 rcases HBEG.out with hno|⟨h1,h2,h3,hgo⟩
 ·refine(hno w1 hk1 hT1).mono ?_;rintro e w2 ⟨rfl,hk2⟩;have hk2w:Keeps (· <w.heap.size) w w2:=hk1.trans (hk2.mono fun b hb=>by have:=hk1.size;omega)
  clear hno hk1 hk2 hT1;have Hk2w:=hid hk2w;clear hk2w
  go_wp2_with fail
  refine(HFIX.out w2 Hk2w.out).mono ?_;rintro e w3 ⟨rfl,hk3⟩;have hk3w:Keeps (· <w.heap.size) w w3:=Hk2w.out.trans (hk3.mono fun b hb=>by have:=Hk2w.out.size;omega)
  clear Hk2w hk3;have Hk3w:=hid hk3w;clear hk3w
  go_wp2_with fail
  exact hR'.out _ _ ⟨rfl,Hk3w.out⟩
 ·refine(hgo w1 hk1 hT1).mono ?_;rintro e w2 ⟨X,m,cb,st,rfl,hW,hge,hk2⟩;have hk2w:Keeps (· <w.heap.size) w w2:=hk1.trans (hk2.mono fun b hb=>by have:=hk1.size;omega)
  clear hgo hk1 hk2 hT1 hge;have H3:=hid h3;clear h3;have Hk2w:=hid hk2w;have HW:=hid hW;clear hk2w hW
  go_wp2_with fail
  refine(HLIG.out w2 Hk2w.out).mono ?_;rintro e w3 ⟨⟨k,c',hkl,rfl⟩,hk3⟩;have hW3:=HW.out.more hk3;have hV0:(newW C).ver=0:=rfl;clear HW Hk2w hk3 HLIG;generalize newC C=cs0 at*;generalize newW C=W0 at*;have HEND:=hid (show∀wx K cs W st,Wd w wx K X m cb C cs W st→Z 10 #[] wx fun e w'=>e= .returned (.bool true)∧Keeps (· <w.heap.size) w w' from fun wx K cs W st hw=>(HFIX.out wx hw.kp).mono fun e w' h=>⟨h.1,hw.kp.trans (h.2.mono fun b hb=>by have:=hw.kp.size;omega)⟩)
  clear HFIX;have HW3:=hid hW3;clear hW3
  go_wp2_with fail
  go_loopw[27] (fun iv wx=>∃(i:Nat) (K:Nat→Prop) (cs:List Int) (W:WrM) (st:Int),iv=I (i:Int)∧i≤k∧i≤31∧Hid (GoodS C cs W)∧W.ver≤(i:Int)∧Hid (Wd w wx K X m cb C cs W st)) (fun iv _=>k-(intOf iv).toNat)
  case atStart=>exact⟨0,_,cs0,W0,st,rfl,Nat.zero_le _,by decide,H3,by rw[hV0];exact Int.le_refl _,HW3⟩
  case round=>
   clear HW3 H3 hV0;obtain⟨i,K,cs,W,st1,rfl,hi,hi31,HG,hver,HWr⟩:=hrel
   by_cases hlt:i<k
   ·have hltI:(i:Int)<(k:Int):=by omega
    obtain⟨b,off,rfl,hkb,hc⟩:=H5.out (by omega)
    have hkb:b<w.heap.size:=hkb;obtain⟨o,hoi⟩:∃o,ops[i]? =some o:=⟨_,List.getElem?_eq_getElem (by omega)⟩
    obtain⟨p0,p1,p2⟩:=opv_at ops i o hoi;have hbl:=HWr.out.kp.block b hkb;have a0:=(World.cell?_of_block (a:=⟨b,off+(i*3+0),none⟩) hbl).trans (hc _ _ p0);have a1:=(World.cell?_of_block (a:=⟨b,off+(i*3+1),none⟩) hbl).trans (hc _ _ p1);have a2:=(World.cell?_of_block (a:=⟨b,off+(i*3+2),none⟩) hbl).trans (hc _ _ p2);simp only[Nat.add_zero,←Nat.add_assoc]at a0 a1 a2
    have hok:=HO.out o (List.mem_of_getElem? hoi);clear hc p0 p1 p2 hbl hoi
    go_upto_region 7 with fail
    have hka:Keeps (· <wr.heap.size) wr (wr.alloc (.cells #[.bool o.del,J o.id,.slice o.A o.fs.length o.c] 37)):=(Keeps.refl _ _).alloc (fun b hb=>hb) _;have hOB:=Blk.new wr [.bool o.del,J o.id,.slice o.A o.fs.length o.c] 37;have hWa:=HWr.out.more hka;generalize hOe:wr.heap.size=OB at*;generalize wr.alloc (.cells #[.bool o.del,J o.id,.slice o.A o.fs.length o.c] 37)=wa at*;have hoka:o.ok wa (fun b=>K b∨(OB≤b∧b<wa.heap.size)):=(hok.keep hWa.kp fun b hb=>hb).mono fun b hb=>hWa.k0 b hb
    generalize (fun b=>K b∨(OB≤b∧b<wa.heap.size))=K1 at*;clear a0 a1 a2 HWr hka hok
    by_cases h30:30<i
    ·have h30I:(30:Int)<(i:Int):=by omega
     obtain⟨b0,b1,b2⟩:=hOB.c3;clear hOB;have HWa:=hid hWa;clear hWa
     go_wp2_with fail
     refine(HEND.out wa _ _ _ _ HWa.out).mono ?_;rintro e w9 ⟨rfl,hk9⟩;have Hk9:=hid hk9;clear hk9
     go_wp2_with fail
     exact hR'.out _ _ ⟨rfl,Hk9.out⟩
    ·have h30I:(i:Int)≤30:=by omega
     have hgr:=law_great o wa K1 hWa.lt hoka;unfold OpV.cells at hgr;have hob:=hOB;obtain⟨b0,b1,b2⟩:=hob.c3;clear hob;have HGR:=hid hgr;clear hgr;have HWa:=hid hWa;have HOB:=hid hOB;have Hoka:=hid hoka;clear hWa hOB hoka
     go_wp2_with fail
     refine HGR.out.mono ?_;rintro e wb ⟨gb,rfl,hgb,hkb⟩;have hWb:=HWa.out.more hkb;have hOBb:=HOB.out.keep hkb HOB.out.lt;have hokb:=(Hoka.out.keep hkb HWa.out.lt).mono (L:=fun b=>K1 b∨(wa.heap.size≤b∧b<wb.heap.size)) fun b hb=>Or.inl hb;generalize (fun b=>K1 b∨(wa.heap.size≤b∧b<wb.heap.size))=K2 at*;clear HGR HWa HOB Hoka hkb b0 b1 b2
     cases gb with
     |true=>
      clear hOBb;have HWb:=hid hWb;clear hWb
      go_wp2_with fail
      refine(HEND.out wb _ _ _ _ HWb.out).mono ?_;rintro e w9 ⟨rfl,hk9⟩;have Hk9:=hid hk9;clear hk9
      go_wp2_with fail
      exact hR'.out _ _ ⟨rfl,Hk9.out⟩
     |false=>
      have hfn:=hgb rfl;obtain⟨live,s0,t0,q0',hi0,hG⟩:=HG.out;obtain⟨W1,er,cs1,-,-,-,-,hv1,⟨live1,t1,q1',hi1,hG1⟩,hdo⟩:=do_good hWb hG HT.out HF.out o hokb (by omega) (by omega)
      unfold OpV.cells at hdo;have HDO:=hid hdo;have hob:=hOBb;obtain⟨b0,b1,b2⟩:=hob.c3;clear hob hdo hOBb hokb hG hgb hfn HG;have HWb:=hid hWb;have HG1:=hid hG1;clear hWb hG1
      go_wp2_with fail
      refine HDO.out.mono ?_;rintro e wc ⟨rfl,⟨st2,hWc,-⟩,-⟩;clear HDO HWb b0 b1 b2;have HWc:=hid hWc;clear hWc
      go_wp2_with fail
      go_roundw
      case rel=>exact⟨i+1,_,cs1,W1,st2,by go_num,by omega,by omega,hid ⟨_,_,_,_,_,HG1.out⟩,by omega,HWc⟩
      case measure=>exact msA
   ·obtain rfl:i=k:=by omega
    have hltI:¬(i:Int)<(i:Int):=by omega
    go_wp2_with fail
    refine(HEND.out wr _ _ _ _ HWr.out).mono ?_;rintro e w9 ⟨rfl,hk9⟩;have Hk9:=hid hk9;clear hk9
    go_wp2_with fail
    exact hR'.out _ _ ⟨rfl,Hk9.out⟩
end Go.Proofs.YtogdknnkhkjmcaaGreatDoor
namespace Go.Proofs.YtogdknnkhkjmcaaGreatDoor
open Go.RowKit Go.ChangeShapes Go.WideShapes Go.ChangeAt Go.Deep
set_option linter.all false
theorem tab_writePlays {W:World}(h:laidMetH Tryz.prog Rows.writePlaysRow.laid W):FoldTab W:=foldTab_of (l:=Rows.writePlaysRow.laid) h (by unfold Rows.writePlaysRow;simp) (by unfold Rows.writePlaysRow;simp) (by unfold Rows.writePlaysRow;simp)
theorem pool_writePlays {W:World}(h:laidMetH Tryz.prog Rows.writePlaysRow.laid W):PTab W:=pTab_of (l:=Rows.writePlaysRow.laid) h (by unfold Rows.writePlaysRow;simp)
theorem writePlays_met (os:Os):laidMet Tryz.prog Rows.writePlaysRow.laid ((laidWorld12 os).forCall (fun _ _=>0) ⟨#[],#[.agg #[.int .i64 0,.int .i64 0,.int .i64 0,.int .i64 0,.int .i64 0,.int .i64 0,.int .i64 0,.int .i64 0,.float .f64 0,.float .f64 0],.slice none 0 0],[]⟩).memory:=
 laidMet_of_run' 8 (by kernel_rfl) (by kernel_rfl)
theorem writePlays_reads (os:Os){H:Type}(enc:TypeId×Value→H):∃places,DataW.whole enc Tryz.prog ((laidWorld12 os).forCall (fun _ _=>0) ⟨#[],#[.agg #[.int .i64 0,.int .i64 0,.int .i64 0,.int .i64 0,.int .i64 0,.int .i64 0,.int .i64 0,.int .i64 0,.float .f64 0,.float .f64 0],.slice none 0 0],[]⟩).memory Tryz.f3.params.toList Rows.writePlaysSpec.vars false (#[.agg #[.int .i64 0,.int .i64 0,.int .i64 0,.int .i64 0,.int .i64 0,.int .i64 0,.int .i64 0,.int .i64 0,.float .f64 0,.float .f64 0],.slice none 0 0]:Array Value).toList 8=some ([.agg [.lit (.int .i64 0),.lit (.int .i64 0),.agg [.lit (.int .i64 0),.lit (.int .i64 0),.lit (.int .i64 0),.lit (.int .i64 0)],.lit (.int .i64 0),.lit (.int .i64 0),.lit (.float .f64 0),.lit (.float .f64 0)],.nil],[],places):=
 ⟨[],by kernel_rfl⟩
set_option maxRecDepth 100000 in
theorem writePlays_lifted (os:Os)(started:os.Started)(H:Type)(enc:TypeId×Value→H)(F:Stop.Interp):
  ReturnsInHanded {} Tryz.checked os 3 .any ((OpenSpec.ofChange Rows.writePlaysSpec).preRow enc Tryz.prog Tryz.f3 Rows.writePlaysRow.domain false Rows.writePlaysRow.laid) (((OpenSpec.ofChange Rows.writePlaysSpec).at F).post enc Tryz.prog Tryz.f3 false true false false):=by
 obtain⟨places,hx⟩:=writePlays_reads os enc;refine returnsInHanded_of_row (C:=Tryz.checked) (s:=OpenSpec.ofChange Rows.writePlaysSpec) Tryz.own started (by kernel_rfl) Tryz.func3
  (witness_row_at (enc:=enc) (C:=Tryz.checked) false (laidWorld12 os) #[.agg #[.int .i64 0,.int .i64 0,.int .i64 0,.int .i64 0,.int .i64 0,.int .i64 0,.int .i64 0,.int .i64 0,.float .f64 0,.float .f64 0],.slice none 0 0] rfl (by kernel_rfl) (by kernel_rfl) (by kernel_rfl)
   (OpenSpec.preRow_of_cond 8 hx (by kernel_rfl) (fun k hk=>by cases hk) (by kernel_rfl) (writePlays_met os))) ?_
 intro W base args ds gs before hval0 hW _ _ hsz0 hL _ _;have hsz:(DataW.weightsEach Tryz.prog (Tryz.f3.params.toList++(OpenSpec.ofChange Rows.writePlaysSpec).bare.plain.varTypes Tryz.prog) (ds++gs)).all (· ≤reachBytes)=true:=hsz0;have hval:∀(j:Nat) t v,Tryz.f3.params[j]? =some t→args[j]? =some v→Value.okWide Tryz.prog W .any base t v:=hval0;have hW':=hW;obtain⟨p,q,hA0,hV,rfl,hfz,hnd⟩:=hW
 have hA:DataW.TrodAll enc Tryz.prog W 0 (fun _=>true) true Tryz.f3.params.toList args.toList ds p:=hA0;rw[Tryz.params3]at hA hval hsz;obtain⟨v0,vs0,d0,ds0,p0,q0,hargs,rfl,rfl,h0,r0⟩:=trodAll_cons hA;obtain⟨v1,vs1,d1,ds1,p1,q1,rfl,rfl,rfl,h1,r1⟩:=trodAll_cons r0;obtain⟨rfl,rfl,rfl⟩:=trodAll_nil r1;obtain rfl:args=#[v0,v1]:=by cases args;simp_all
 obtain⟨rfl,rfl⟩:=trodVars_none hV;simp only[List.append_nil]at hW';have k0:=h0;have k1:=h1;have hlt0:∀x∈p0,x.block<W.heap.size:=fun x hx=>by simpa using hW'.lt x (by simp[hx])
 have hlt1:∀x∈p1,x.block<W.heap.size:=fun x hx=>by simpa using hW'.lt x (by simp[hx])
 obtain⟨a0,rfl⟩:=open_conf (hval 0 25 v0 rfl rfl) h0;obtain⟨A1,c1,l1,rfl,w10,s1⟩:=open_ops (hval 1 26 v1 rfl rfl) h1;have w1:=w10 fun m hm=>Nat.le_trans (of_decide_eq_true (List.all_eq_true.1 hsz m (DataW.weights_mem_each (j:=1) rfl rfl m hm))) (by decide)
 clear hA0 hval0;have hwalk:Calls Tryz.prog 3 #[.agg a0.list.toArray,.slice A1 l1.length c1] W fun e W'=>e= .returned (.bool true)∧Keeps (· <W.heap.size) W W':=by
  exact law_plays a0 l1 A1 c1 W (pool_writePlays hL) (tab_writePlays hL) s1 w1
 refine hwalk.mono fun e W' ⟨he,hg⟩=>?_;subst he;exact⟨_,rfl,_,_,_,_,_,[],hW',trodAll_cons_mk (shut_bool Tryz.underlying4 _) trodAll_mk0,trodAll_cons_mk (arg_kept (by kernel_rfl) (of_decide_eq_true (by kernel_rfl)) k0 hg hlt0) (trodAll_cons_mk (arg_kept (by kernel_rfl) (of_decide_eq_true (by kernel_rfl)) k1 hg hlt1) (trodAll_mk0)),rfl,hg.below.frame _,fun h=>by cases h⟩
theorem writePlays_said:Rows.WritePlaysSaid:=
 OpenClaim.holds_of_cond 3 Tryz.f3 rfl rfl rfl rfl rfl rfl rfl ⟨rfl,rfl,rfl,rfl,rfl⟩ rfl rfl rfl rfl rfl (by kernel_rfl) Tryz.func3 (by kernel_rfl)
  (of_decide_eq_true (by kernel_rfl)) (by unfold Func.isWrapper;first|(rw[if_pos (by decide+kernel)];kernel_rfl)|(rw[if_neg (by decide+kernel)];exact⟨rfl,rfl⟩))
  (fun os started H enc _ F=>by rw[OpenClaim.pre_eq_preRow];exact writePlays_lifted os started H enc F)
theorem writePlays_plain (f : FuncId) (fn : Func) (hf : Tryz.pinned.checked.prog.funcNamed "plover/ploverlaw12.WritePlays" = some f) (hfn : Tryz.pinned.checked.prog.funcs[f]? = some fn) :
  false=Tryz.pinned.checked.prog.looks []∧∀(j:Nat) t,fn.params[j]? =some t→Tryz.pinned.checked.prog.wantsStandIn t=false:=by
 obtain rfl : f = 3 := Option.some.inj ((show Tryz.prog.funcNamed "plover/ploverlaw12.WritePlays" = some 3 by kernel_rfl).symm.trans hf) |>.symm
 obtain rfl:fn=Tryz.f3:=(Option.some.inj (Tryz.func3.symm.trans hfn)).symm;refine⟨by kernel_rfl,fun j t ht=>?_⟩
 rw[Tryz.params3]at ht;have ht':t=25∨t=26:=by simpa using Array.mem_of_getElem? ht
 rcases ht' with rfl|rfl
 ·exact(show Tryz.prog.wantsStandIn 25=false by kernel_rfl)
 ·exact(show Tryz.prog.wantsStandIn 26=false by kernel_rfl)
theorem writePlays_holds:Rows.WritePlaysCardSaid:=
 Claim7.holds_tied_plain_at .later [] _ _ _ _ writePlays_said (fun _ h=>by cases h) (by kernel_rfl) (fun _ h=>by cases h) writePlays_row_tie rfl ⟨rfl,rfl⟩ (by kernel_rfl) rfl writePlays_plain (by kernel_rfl)
end Go.Proofs.YtogdknnkhkjmcaaGreatDoor
