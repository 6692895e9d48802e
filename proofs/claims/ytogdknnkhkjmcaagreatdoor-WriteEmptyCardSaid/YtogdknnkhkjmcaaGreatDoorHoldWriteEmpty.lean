/- The statement on WriteEmpty, and its card: the call returns true and leaves what it was handed as it was. -/
import Derived.Test.YtogdknnkhkjmcaaGreatDoorKFoldB
import Derived.BigQuiet
import Derived.Test.YtogdknnkhkjmcaaGreatDoorKLwO
import Derived.Deep.CutBlock
import Derived.Deep.CutRange
import Derived.Test.YtogdknnkhkjmcaaGreatDoorCards
import Derived.Test.YtogdknnkhkjmcaaGreatDoorTie
import Derived.WalkKit
import Derived.ProofKit
import Derived.OpenShut
import Derived.Deep.DeepHandedRow
import Derived.Lib.LaidTab
namespace Go.Proofs.YtogdknnkhkjmcaaGreatDoor
open Go.RowKit
set_option linter.all false
structure KP (W:World)(N:Nat) where
 w:World
 k:Keeps (· <N) W w
instance KP.ne (W:World)(N:Nat):Nonempty (KP W N):=⟨⟨W,Keeps.refl _ _⟩⟩
theorem wp_region_class {P:Program}{id:Nat}{Q:Exit→Act→World→Prop}{a:Act}{w:World}{l:List Oper}(N:Nat)(hm:P.follows .mixedOrders=true)(hB:Region.lexB .any l.toArray=true)
  (h:wpQuiet P l.toArray (fun w'=>∃p:KP w N,w'=p.w) (fun a'=>∀w',(∃p:KP w N,w'=p.w)→Q .normal a' w') l a):(Code.region id l.toArray true).wp P Q a w:=
 wp_region_quiet (C:=fun w'=>∃p:KP w N,w'=p.w) hm hB ⟨⟨w.drew,(Keeps.refl _ _).drew⟩,rfl⟩ (by simpa using h)
theorem KP.calls {P:Program}{f:FuncId}{args:Array Value}{W:World}{N:Nat}(p:KP W N){v:Value}(hN:N≤W.heap.size)(h:Calls P f args p.w fun e w'=>e= .returned v∧Keeps (· <p.w.heap.size) p.w w'):Calls P f args p.w fun e w'=>e= .returned v∧∃q:KP W N,w'=q.w:=
 h.mono fun _ w' ⟨he,hk⟩=>⟨he,⟨w',p.k.trans (hk.mono fun b hb=>by have:=p.k.size;omega)⟩,rfl⟩
theorem KP.cell {W:World}{N b o:Nat}{v:Value}(hb:b<N)(h:W.cell? ⟨b,o,none⟩=some v)(p:KP W N):p.w.cell? ⟨b,o,none⟩=some v:=(World.cell?_of_block (p.k.block b hb)).trans h
theorem KP.draw {W:World}{N:Nat}(p:KP W N)(n:Nat):Keeps (· <p.w.heap.size) p.w (p.w.drewN n):=(Keeps.refl _ _).drewN n
end Go.Proofs.YtogdknnkhkjmcaaGreatDoor
namespace Go.Proofs.YtogdknnkhkjmcaaGreatDoor
open Go.RowKit
set_option linter.all false
def One (W:WrM):Prop:=∃x,W.segs=[x]
theorem One.op {C:ConfM}{cs:List Int}{W:WrM}{live:SegM}{s:Nat}{t:Tab}{del:Bool}{id:Int}{fs:List ByteArray}{W':WrM}{er:Int}{cs':List Int}(h:One W)(d:DoTo C cs W live s t del id fs W' er cs'):One W':=by
 obtain⟨x,hx⟩:=h;unfold DoTo at d
 split at d
 ·unfold rdelL at d;dsimp only at d
  split at d
  ·injection d with _ e;injection e with _ e;exact⟨x,e▸hx⟩
  ·split at d
   ·injection d with _ e;injection e with _ e;exact⟨x,e▸hx⟩
   ·split at d
    ·injection d with _ e;injection e with _ e;exact⟨x,e▸hx⟩
    ·injection d with _ e;injection e with _ e;exact⟨x,by rw[←e];exact hx⟩
 ·split at d
  ·exact⟨x,d.2.1▸hx⟩
  ·cases d with
   |dup=>exact⟨x,hx⟩
   |seg=>exact⟨x,hx⟩
   |terms=>exact⟨x,hx⟩
   |full=>exact⟨x,hx⟩
   |good=>exact⟨{ x with docs:=x.docs+1 },by unfold addW;dsimp only;rw[hx];rfl⟩
def emptyF:List ByteArray:=[⟨#[116,104,101]⟩,⟨#[45,45,32]⟩,⟨#[]⟩]
theorem toks_e0:toksM (emptyF.take 0)=some []:=by kernel_rfl
theorem toks_e1:toksM (emptyF.take 1)=some []:=by kernel_rfl
theorem toks_e2:toksM (emptyF.take 2)=some []:=by kernel_rfl
theorem toks_e3:toksM (emptyF.take 3)=some []:=by kernel_rfl
theorem toks_empty (k:Nat)(h:k<4):toksM (emptyF.take k)=some []:=by
 have:k=0∨k=1∨k=2∨k=3:=by omega
 rcases this with rfl|rfl|rfl|rfl
 ·exact toks_e0
 ·exact toks_e1
 ·exact toks_e2
 ·exact toks_e3
theorem empty_way {C:ConfM}{P:Pools}{cs:List Int}{W:WrM}{live:SegM}{s:Nat}{t:Tab}{q:Nat→Nat}{hi:Nat}(G:Good C P cs W live s t q hi)(h1:One W){id:Int}{k:Nat}(hk:k<4){W':WrM}{er:Int}{cs':List Int}(d:DoTo C cs W live s t false id (emptyF.take k) W' er cs'):
  (W'=W∧(er=5∨er=6))∨(er=0∧W'.ver=W.ver+1∧W'.used=W.used∧W'.terms=W.terms∧∃x,W.segs=[x]∧W'.segs=[{ x with docs:=x.docs+1 }]):=by
 obtain⟨x,hx⟩:=h1;unfold DoTo at d;rw[if_neg Bool.false_ne_true,toks_empty k hk]at d;dsimp only at d;unfold termsP at d
 cases d with
 |dup=>exact Or.inl ⟨rfl,Or.inr rfl⟩
 |seg=>exact Or.inl ⟨rfl,Or.inl rfl⟩
 |terms _ _ h3=>exact absurd h3 (by have:=G.few;unfold needsP;dsimp only;omega)
 |full _ _ _ h4=>
  have hu:=G.used;have u0:0≤W.used.a0∧W.used.a0≤C.plan.size.a0:=hu 0 (by decide)
  have u1:0≤W.used.a1∧W.used.a1≤C.plan.size.a1:=hu 1 (by decide)
  have u2:0≤W.used.a2∧W.used.a2≤C.plan.size.a2:=hu 2 (by decide)
  have u3:0≤W.used.a3∧W.used.a3≤C.plan.size.a3:=hu 3 (by decide)
  have u4:0≤W.used.a4∧W.used.a4≤C.plan.size.a4:=hu 4 (by decide)
  have u5:0≤W.used.a5∧W.used.a5≤C.plan.size.a5:=hu 5 (by decide)
  refine absurd h4 ?_;unfold needsP fitsP zero6;dsimp only at*;rw[decide_eq_true (by omega),decide_eq_true (by omega),decide_eq_true (by omega),decide_eq_true (by omega),decide_eq_true (by omega),decide_eq_true (by omega)]
  decide
 |good cs1 u' qa _ _ _ _ h5=>
  unfold WordsTo at h5;refine Or.inr ⟨rfl,rfl,h5.2,?_,x,hx,?_⟩
  ·unfold addW needsP;dsimp only;omega
  ·unfold addW;dsimp only;rw[hx];rfl
set_option maxRecDepth 100000 in
set_option maxHeartbeats 4000000 in
theorem law_empty (C:ConfM)(ops:List OpV)(id:Int)(nk:Nat)(hid0:U32 id)(hnk:nk<256)(A:Option Addr)(c:Nat)(w:World)(hT:PTab w)(hF:FoldTab w)(hsl:SlAt w (· <w.heap.size) 3 (.slice A ops.length c) ops.length (ops.flatMap OpV.cells))(ho:∀o∈ops,o.ok w (· <w.heap.size)):
  Z 8 #[.agg C.list.toArray,.slice A ops.length c,J id,.int .u8 nk] w fun e w'=>e= .returned (.bool true)∧Keeps (· <w.heap.size) w w':=by
 have hbeg:=law_begin C w w hT (Keeps.refl _ _);have hfix:=fun W (hk:Keeps (· <w.heap.size) w W)=>law_fixed (w0:=w) (w:=W) hT hF hk;have hlig:=fun W (hk:Keeps (· <w.heap.size) w W)=>law_light ops A c W (· <w.heap.size) (fun b hb=>Nat.lt_of_lt_of_le hb hk.size) (hsl.keep hk fun b hb=>hb) (fun o h=>(ho o h).keep hk fun b hb=>hb);obtain⟨A',cap,e1,e2,e3,e4,e5⟩:=hsl
 injection e1 with e1 _ e1c
 subst e1 e1c;have H5:=hid e5;have HO:=hid ho;have HT:=hid hT;have HF:=hid hF;have HFIX:=hid hfix;have HLIG:=hid hlig;obtain⟨docs,terms,q0,q1,q2,q3,book,room,kk,bb,hcfe⟩:∃docs terms q0 q1 q2 q3 book room kk bb,C=⟨docs,terms,q0,q1,q2,q3,book,room,kk,bb⟩:=⟨_,_,_,_,_,_,_,_,_,_,rfl⟩;have hcli:C.list=[I docs,I terms,I q0,I q1,I q2,I q3,I book,I room,kk,bb]:=by rw[hcfe];rfl
 rw[hcli]at hbeg ⊢;have HBEG:=hid hbeg;clear hT hF ho e3 e4 e5 hfix hlig hbeg hcli hcfe;refine calls_hide fun R' hR'=>?_
 go_enter Tryz.func8,Tryz.ntmps8
 go_wp2_with fail
 refine calls_gen (fun W0=>Keeps (· <w.heap.size) w W0) ((Keeps.refl _ _).alloc (fun b hb=>hb) _) (fun w1 hk1=>?_);have hT1:=HT.out.keep (K:=(· <w.heap.size)) hk1 HT.out.2.2.2.2
 rcases HBEG.out with hno|⟨h1,h2,h3,hgo⟩
 ·refine(hno w1 hk1 hT1).mono ?_;rintro e w2 ⟨rfl,hk2⟩;have hk2w:Keeps (· <w.heap.size) w w2:=hk1.trans (hk2.mono fun b hb=>by have:=hk1.size;omega)
  clear hno hk1 hk2 hT1;have Hk2w:=hid hk2w;clear hk2w
  go_wp2_with fail
  refine(HFIX.out w2 Hk2w.out).mono ?_;rintro e w3 ⟨rfl,hk3⟩;have hk3w:Keeps (· <w.heap.size) w w3:=Hk2w.out.trans (hk3.mono fun b hb=>by have:=Hk2w.out.size;omega)
  clear Hk2w hk3;have Hk3w:=hid hk3w;clear hk3w
  go_wp2_with fail
  exact hR'.out _ _ ⟨rfl,Hk3w.out⟩
 ·refine(hgo w1 hk1 hT1).mono ?_;rintro e w2 ⟨X,m,cb,st,rfl,hW,hge,hk2⟩;have hk2w:Keeps (· <w.heap.size) w w2:=hk1.trans (hk2.mono fun b hb=>by have:=hk1.size;omega)
  have HGE:=hid (show w.heap.size≤X∧w.heap.size≤m∧w.heap.size≤cb by have:=hk1.size;omega)
  clear hgo hk1 hk2 hT1 hge;have H3:=hid h3;clear h3;have Hk2w:=hid hk2w;have HW:=hid hW;clear hk2w hW
  go_wp2_with fail
  refine(HLIG.out w2 Hk2w.out).mono ?_;rintro e w3 ⟨⟨k,c',hkl,rfl⟩,hk3⟩;have hW3:=HW.out.more hk3;have hV0:(newW C).ver=0:=rfl;have h1W:One (newW C):=⟨_,rfl⟩;clear HW Hk2w hk3 HLIG;generalize newC C=cs0 at*;generalize newW C=W0 at*;have HEND:=hid (show∀wx K cs W st,Wd w wx K X m cb C cs W st→Z 10 #[] wx fun e w'=>e= .returned (.bool true)∧Keeps (· <w.heap.size) w w' from fun wx K cs W st hw=>(HFIX.out wx hw.kp).mono fun e w' h=>⟨h.1,hw.kp.trans (h.2.mono fun b hb=>by have:=hw.kp.size;omega)⟩)
  have HW3:=hid hW3;clear hW3
  go_upto_block 0 with fail
  go_cut[]from 11 to 50 (fun wx=>∃(K:Nat→Prop) (cs:List Int) (W:WrM) (st:Int),Hid (GoodS C cs W)∧W.ver≤20∧One W∧Hid (Wd w wx K X m cb C cs W st))
  case first=>
   go_wp2_with fail
   go_loopw[35] (fun iv wx=>∃(i:Nat) (K:Nat→Prop) (cs:List Int) (W:WrM) (st:Int),iv=I (i:Int)∧i≤k∧i≤13∧Hid (GoodS C cs W)∧W.ver≤(i:Int)∧One W∧Hid (Wd w wx K X m cb C cs W st)) (fun iv _=>k-(intOf iv).toNat)
   case atStart=>exact⟨0,_,cs0,W0,st,rfl,Nat.zero_le _,by decide,H3,by rw[hV0];exact Int.le_refl _,h1W,HW3⟩
   case round=>
    clear HW3 H3 hV0;obtain⟨i,K,cs,W,st1,rfl,hi,hi13,HG,hver,h1W2,HWr⟩:=hrel
    by_cases hlt:i<k
    ·have hltI:(i:Int)<(k:Int):=by omega
     obtain⟨b,off,rfl,hkb,hc⟩:=H5.out (by omega)
     have hkb:b<w.heap.size:=hkb;obtain⟨o,hoi⟩:∃o,ops[i]? =some o:=⟨_,List.getElem?_eq_getElem (by omega)⟩
     obtain⟨p0,p1,p2⟩:=opv_at ops i o hoi;have hbl:=HWr.out.kp.block b hkb;have a0:=(World.cell?_of_block (a:=⟨b,off+(i*3+0),none⟩) hbl).trans (hc _ _ p0);have a1:=(World.cell?_of_block (a:=⟨b,off+(i*3+1),none⟩) hbl).trans (hc _ _ p1);have a2:=(World.cell?_of_block (a:=⟨b,off+(i*3+2),none⟩) hbl).trans (hc _ _ p2);simp only[Nat.add_zero,←Nat.add_assoc]at a0 a1 a2
     have hok:=HO.out o (List.mem_of_getElem? hoi);clear hc p0 p1 p2 hbl hoi
     go_upto_region 7 with fail
     have hka:Keeps (· <wr.heap.size) wr (wr.alloc (.cells #[.bool o.del,J o.id,.slice o.A o.fs.length o.c] 37)):=(Keeps.refl _ _).alloc (fun b hb=>hb) _;have hOB:=Blk.new wr [.bool o.del,J o.id,.slice o.A o.fs.length o.c] 37;have hWa:=HWr.out.more hka;generalize hOe:wr.heap.size=OB at*;generalize wr.alloc (.cells #[.bool o.del,J o.id,.slice o.A o.fs.length o.c] 37)=wa at*
     have hoka:o.ok wa (fun b=>K b∨(OB≤b∧b<wa.heap.size)):=(hok.keep hWa.kp fun b hb=>hb).mono fun b hb=>hWa.k0 b hb;generalize (fun b=>K b∨(OB≤b∧b<wa.heap.size))=K1 at*;clear a0 a1 a2 HWr hka hok
     by_cases h30:12<i
     ·have h30I:(12:Int)<(i:Int):=by omega
      obtain⟨b0,b1,b2⟩:=hOB.c3;clear hOB;have HWa:=hid hWa;clear hWa
      go_wp2_with fail
      go_meet
      case rel=>exact⟨_,cs,W,st1,HG,by omega,h1W2,HWa⟩
     ·have h30I:(i:Int)≤12:=by omega
      have hgr:=law_great o wa K1 hWa.lt hoka;unfold OpV.cells at hgr;have hob:=hOB;obtain⟨b0,b1,b2⟩:=hob.c3;clear hob;have HGR:=hid hgr;clear hgr;have HWa:=hid hWa;have HOB:=hid hOB;have Hoka:=hid hoka;clear hWa hOB hoka
      go_wp2_with fail
      refine HGR.out.mono ?_;rintro e wb ⟨gb,rfl,hgb,hkb⟩;have hWb:=HWa.out.more hkb;have hOBb:=HOB.out.keep hkb HOB.out.lt;have hokb:=(Hoka.out.keep hkb HWa.out.lt).mono (L:=fun b=>K1 b∨(wa.heap.size≤b∧b<wb.heap.size)) fun b hb=>Or.inl hb;generalize (fun b=>K1 b∨(wa.heap.size≤b∧b<wb.heap.size))=K2 at*;clear HGR HWa HOB Hoka hkb b0 b1 b2
      cases gb with
      |true=>
       clear hOBb;have HWb:=hid hWb;clear hWb
       go_wp2_with fail
       go_meet
       case rel=>exact⟨_,cs,W,st1,HG,by omega,h1W2,HWb⟩
      |false=>
       have hfn:=hgb rfl;obtain⟨live,s0,t0,q0',hi0,hG⟩:=HG.out;obtain⟨W1,er,cs1,-,hdt,-,-,hv1,⟨live1,t1,q1',hi1,hG1⟩,hdo⟩:=do_good hWb hG HT.out HF.out o hokb (by omega) (by omega)
       have h1W1:=h1W2.op hdt;clear hdt;unfold OpV.cells at hdo;have HDO:=hid hdo;have hob:=hOBb;obtain⟨b0,b1,b2⟩:=hob.c3;clear hob hdo hOBb hokb hG hgb hfn HG;have HWb:=hid hWb;have HG1:=hid hG1;clear hWb hG1
       go_wp2_with fail
       refine HDO.out.mono ?_;rintro e wc ⟨rfl,⟨st2,hWc,-⟩,-⟩;clear HDO HWb b0 b1 b2;have HWc:=hid hWc;clear hWc
       go_wp2_with fail
       go_roundw
       case rel=>exact⟨i+1,_,cs1,W1,st2,by go_num,by omega,by omega,hid ⟨_,_,_,_,_,HG1.out⟩,by omega,h1W1,HWc⟩
       case measure=>exact msA
    ·obtain rfl:i=k:=by omega
     have hltI:¬(i:Int)<(i:Int):=by omega
     go_wp2_with fail
     go_meet
     case rel=>exact⟨_,cs,W,st1,HG,by omega,h1W2,HWr⟩
  case rest=>
   clear HW3 H3 hV0 h1W;obtain⟨K,cs,W,st1,HG,hver,h1W,HWr⟩:=hcut;obtain⟨live,s0,t0,q0',hi0,hG⟩:=HG.out;have hop:=hG.op false id (emptyF.take (nk%4)) hid0 (by omega)
   obtain⟨W',er,cs',n,hop1,hop2,hop3,hop4,hop5,hop6,hop7,-⟩:=hop;have hway:=empty_way hG h1W (Nat.mod_lt nk (by decide)) hop6
   obtain⟨k,hk4,hkn⟩:∃k:Nat,k<4∧nk%4=k:=⟨_,Nat.mod_lt _ (by decide),rfl⟩
   rw[hkn]at hop1 hop6;have hfs:(emptyF.take k).length=k:=by rw[List.length_take];exact Nat.min_eq_left (by show k≤3;omega)
   have hkm:Int.tmod (nk:Int) 4=(k:Int):=by rw[Int.tmod_eq_emod_of_nonneg (by omega)];omega
   obtain⟨segs,wt,wv,v0,v1,v2,v3,v4,v5⟩:=W;obtain⟨SA,sc,CA,cc,TA,tc,hX,hs1,hsc,hs2⟩:=HWr.out.obj;have k26:wc.cell? ⟨X,26,none⟩=some (.slice SA segs.length sc):=(hX.cell 26).trans (x_get26 0 _ rfl);have k27:wc.cell? ⟨X,27,none⟩=some (I wt):=(hX.cell 27).trans (x_get26 1 _ rfl);have k28:wc.cell? ⟨X,28,none⟩=some (J wv):=(hX.cell 28).trans (x_get26 2 _ rfl)
   have k29:wc.cell? ⟨X,29,none⟩=some (I v0):=(hX.cell 29).trans (x_get26 3 _ rfl);have k30:wc.cell? ⟨X,30,none⟩=some (I v1):=(hX.cell 30).trans (x_get26 4 _ rfl);have k31:wc.cell? ⟨X,31,none⟩=some (I v2):=(hX.cell 31).trans (x_get26 5 _ rfl);have k32:wc.cell? ⟨X,32,none⟩=some (I v3):=(hX.cell 32).trans (x_get26 6 _ rfl);have k33:wc.cell? ⟨X,33,none⟩=some (I v4):=(hX.cell 33).trans (x_get26 7 _ rfl)
   have k34:wc.cell? ⟨X,34,none⟩=some (I v5):=(hX.cell 34).trans (x_get26 8 _ rfl);have hk3:(k:Int)≤3:=by omega
   clear hX hsc hs2 hkn;have HGG:=hid hG;have HID:=hid hid0;have HOP1:=hid hop1;have HOP6:=hid hop6;have HWAY:=hid hway;have HS1:=hid hs1;have HFS:=hid hfs;have HOP5:=hid hop5;have HOP3:=hid hop3;have HOP4:=hid hop4;have H1W:=hid h1W;clear hG hnk hid0 hop1 hop6 hway hs1 hfs hop5 hop3 hop4 hop7 h1W
   go_upto_region 13 with fail
   have hka:Keeps (· <wc.heap.size) wc (((wc.alloc (.cells #[.slice SA segs.length sc,I wt,J wv,I v0,I v1,I v2,I v3,I v4,I v5] 46)).alloc (.cells #[.string ⟨#[116,104,101]⟩,.string ⟨#[45,45,32]⟩,.string ⟨#[]⟩] 9)).alloc (.cells #[.bool false,J id,.slice (some ⟨wc.heap.size+1,0,none⟩) k 3] 37)):=by
    exact kA
   have hBA:=((Blk.new wc [.slice SA segs.length sc,I wt,J wv,I v0,I v1,I v2,I v3,I v4,I v5] 46).alloc (.cells #[.string ⟨#[116,104,101]⟩,.string ⟨#[45,45,32]⟩,.string ⟨#[]⟩] 9)).alloc (.cells #[.bool false,J id,.slice (some ⟨wc.heap.size+1,0,none⟩) k 3] 37);have hFB:=(Blk.new' (wc.alloc (.cells #[.slice SA segs.length sc,I wt,J wv,I v0,I v1,I v2,I v3,I v4,I v5] 46)) [.string ⟨#[116,104,101]⟩,.string ⟨#[45,45,32]⟩,.string ⟨#[]⟩] 9 (b:=wc.heap.size+1) (by simp)).alloc (.cells #[.bool false,J id,.slice (some ⟨wc.heap.size+1,0,none⟩) k 3] 37)
   have hOB:=Blk.new' ((wc.alloc (.cells #[.slice SA segs.length sc,I wt,J wv,I v0,I v1,I v2,I v3,I v4,I v5] 46)).alloc (.cells #[.string ⟨#[116,104,101]⟩,.string ⟨#[45,45,32]⟩,.string ⟨#[]⟩] 9)) [.bool false,J id,.slice (some ⟨wc.heap.size+1,0,none⟩) k 3] 37 (b:=wc.heap.size+1+1) (by simp)
   have hWa:=HWr.out.more hka;have hXl:X<wc.heap.size∧m<wc.heap.size∧cb<wc.heap.size:=by
    obtain⟨_,_,_,_,_,_,g,_⟩:=HWr.out.obj;obtain⟨_,g2,_⟩:=HWr.out.mem;exact⟨g.lt,g2.obj.lt,g2.cells.lt⟩
   have hs1a:=HS1.out.keep hka HWr.out.lt;have hKx:=And.intro HWr.out.kx (And.intro HWr.out.km HWr.out.kc);have hKl:=HWr.out.lt;generalize hBe:wc.heap.size=BA at*;generalize (((wc.alloc (.cells #[.slice SA segs.length sc,I wt,J wv,I v0,I v1,I v2,I v3,I v4,I v5] 46)).alloc (.cells #[.string ⟨#[116,104,101]⟩,.string ⟨#[45,45,32]⟩,.string ⟨#[]⟩] 9)).alloc (.cells #[.bool false,J id,.slice (some ⟨BA+1,0,none⟩) k 3] 37))=wa at*
   obtain⟨hXl,hml,hcl⟩:=hXl;clear k26 k27 k28 k29 k30 k31 k32 k33 k34 HWr HS1 HG hka;have hsa:SlAt wa (fun b=>K b∨(BA≤b∧b<wa.heap.size)) 1 (.slice (some ⟨BA+1,0,none⟩) (emptyF.take k).length 3) (emptyF.take k).length ((emptyF.take k).map Value.string):=
    ⟨_,_,rfl,by rw[HFS.out];omega,by decide,(by simp),fun _=>⟨BA+1,0,rfl,Or.inr ⟨by omega,hFB.lt⟩,fun j u hu=>by
     rw[Nat.zero_add,hFB.cell];rw[List.map_take,List.getElem?_take]at hu
     split at hu
     ·exact hu
     ·cases hu⟩⟩
   generalize hK1:(fun b=>K b∨(BA≤b∧b<wa.heap.size))=K1 at*;have hK1l:∀b,K b→K1 b:=fun b hb=>by rw[←hK1];exact Or.inl hb
   obtain⟨SA2,sc2,CA,cc,TA,tc,hX,hs1,hsc,hs2⟩:=hWa.obj;have hwant:=law_want X m C ⟨segs,wt,wv,⟨v0,v1,v2,v3,v4,v5⟩⟩ HGG.out SA2 TA CA segs.length sc2 tc cc false id (emptyF.take k) (some ⟨BA+1,0,none⟩) 3 wa K1 hWa.lt hX hsc hs2 hsa (by rw[HFS.out];omega) (by dsimp only at hver ⊢;omega) HOP6.out
   rw[HFS.out]at hwant;have HWN:=hid hwant;have hob:=hOB;obtain⟨b0,b1,b2⟩:=hob.c3;clear hX hs1 hsc hs2 hwant hob;have HWa:=hid hWa;have HBA:=hid hBA;have HFB:=hid hFB;have HOB:=hid hOB;have Hsa:=hid hsa;have Hs1a:=hid hs1a;have HKx:=hid hKx;have HKl:=hid hKl;have HK1:=hid hK1;have HK1l:=hid hK1l;clear hWa hBA hFB hOB hsa hs1a hKx hKl hK1 hK1l
   go_wp2_with fail
   refine HWN.out.mono ?_;rintro e wb ⟨cv,sv,rfl,⟨A3,c3,rfl,-⟩,⟨A4,c4,rfl,-⟩,hkb⟩;obtain⟨W'segs,Wt',Wv',x0,x1,x2,x3,x4,x5⟩:=W';unfold WrM.vals;dsimp only;have hWb:=HWa.out.more hkb;have hBAb:=HBA.out.keep hkb HBA.out.lt;have hOBb:=HOB.out.keep hkb HOB.out.lt;have hsab:=(Hsa.out.keep hkb HWa.out.lt).mono (L:=fun b=>K1 b∨(wa.heap.size≤b∧b<wb.heap.size)) fun b hb=>Or.inl hb
   have hs1b:=Hs1a.out.keep hkb fun b hb=>HWa.out.lt b (HK1l.out b hb);clear HWN HWa HBA HOB Hsa Hs1a b0 b1 b2;have HWB:=hid hWb;have HBB:=hid hBAb;have HOB2:=hid hOBb;have HSB:=hid hsab;have HS1B:=hid hs1b;have HKB:=hid hkb;clear hWb hBAb hOBb hsab hs1b hkb
   go_upto_region 14 with fail
   have hkn:Keeps (· <wb.heap.size) wb (wb.alloc (.cells #[.slice A3 cs'.length c3,.slice A4 W'segs.length c4,I Wt',J Wv',I x0,I x1,I x2,I x3,I x4,I x5] 49)):=(Keeps.refl _ _).alloc (fun b hb=>hb) _;have hWn:=HWB.out.more hkn;have hBAn:=HBB.out.keep hkn HBB.out.lt;have hOBn:=HOB2.out.keep hkn HOB2.out.lt;have hsan:=(HSB.out.keep hkn HWB.out.lt).mono (L:=fun b=>(K1 b∨(wa.heap.size≤b∧b<wb.heap.size))∨(wb.heap.size≤b∧b<(wb.alloc (.cells #[.slice A3 cs'.length c3,.slice A4 W'segs.length c4,I Wt',J Wv',I x0,I x1,I x2,I x3,I x4,I x5] 49)).heap.size)) fun b hb=>Or.inl hb
   have hs1n:=HS1B.out.keep hkn fun b hb=>HWB.out.lt b (Or.inl (HK1l.out b hb));have hszb:=HKB.out.size;have hszw:=HWB.out.kp.size;have hsn:=hkn.size;generalize wb.alloc (.cells #[.slice A3 cs'.length c3,.slice A4 W'segs.length c4,I Wt',J Wv',I x0,I x1,I x2,I x3,I x4,I x5] 49)=wn at*;generalize wb.heap.size=Bs at*;have hdo:=law_do hWn HGG.out HT.out HF.out false id (emptyF.take k) (some ⟨BA+1,0,none⟩) 3 hsan (by rw[HFS.out];omega) HID.out (by dsimp only at hver ⊢;omega) HOP1.out hop2 HOP3.out (fun h=>(HOP4.out h).1) HOP5.out HOP6.out
   rw[HFS.out]at hdo;have HDO:=hid hdo;have hob:=hOBn;obtain⟨b0,b1,b2⟩:=hob.c3;clear hob hdo hop2 hsan hkn HWB HBB HOB2 HSB HS1B HKB;have hbw:=hOBn.lt;have hKn:∀b,K b→b<wn.heap.size:=fun b hb=>by have:=HKl.out b hb;omega
   have hXm:X<BA∧m<BA∧cb<BA:=⟨hXl,hml,hcl⟩;have hBAn0:=fun{W} (k:Keeps (fun b=>b<wn.heap.size∧b≠X∧b≠m∧b≠cb) wn W)=>hBAn.keep k ⟨hBAn.lt,by omega,by omega,by omega⟩
   have hs1n0:=fun{W} (k:Keeps (fun b=>b<wn.heap.size∧b≠X∧b≠m∧b≠cb) wn W)=>hs1n.keep k fun b hb=>⟨hKn b hb,fun h=>HKx.out.1 (h▸hb),fun h=>HKx.out.2.1 (h▸hb),fun h=>HKx.out.2.2 (h▸hb)⟩;have hkw0:=hWn.kp;have hBAw:w.heap.size≤X∧w.heap.size≤m∧w.heap.size≤cb:=HGE.out;have HWn:=hid hWn;have HBAn:=hid hBAn;have HOBn:=hid hOBn;have Hs1n:=hid hs1n
   have Hkw0:=hid hkw0;clear hWn hBAn hOBn hs1n hkw0
   go_wp2_with fail
   refine HDO.out.mono ?_;rintro e wd ⟨rfl,⟨st2,hWd,-⟩,hkd⟩;have hBAd:=hBAn0 hkd;have hs1d:=hs1n0 hkd;have hXd:=hWd;obtain⟨SB,sb,CB,cbb,TB,tb,hXb,hsB,-,-⟩:=hXd.obj;have hkd0:=Hkw0.out.trans (hkd.mono fun b hb=>⟨by have:=Hkw0.out.size;omega,by omega,by omega,by omega⟩)
   have hKwd:∀b,K b→b<wd.heap.size:=fun b hb=>by have:=hKn b hb;have:=hkd.size;omega
   have hXlt:=hXb.lt;have hBlt:=hBAd.lt;have hfx:∀p:KP wd wd.heap.size,Z 10 #[] p.w fun e w'=>e= .returned (.bool true)∧∃q:KP wd wd.heap.size,w'=q.w:=fun p=>p.calls (Nat.le_refl _) (HFIX.out p.w (hkd0.trans (p.k.mono fun b hb=>by have:=hkd0.size;omega)))
   clear HDO HWn HBAn HOBn Hs1n hWd b0 b1 b2
   rcases HWAY.out with⟨hWW,her⟩|⟨rfl,hv1,hu1,ht1,x,hx1,hx2⟩
   ·injection hWW with e1 e2 e3 e4
    injection e4 with f0 f1 f2 f3 f4 f5
    subst e1 e2 e3 f0 f1 f2 f3 f4 f5;have hsw:∀p:KP wd wd.heap.size,Z 27 #[.agg #[.slice SA W'segs.length sc,I Wt',J Wv',I x0,I x1,I x2,I x3,I x4,I x5],.agg #[.slice SB W'segs.length sb,I Wt',J Wv',I x0,I x1,I x2,I x3,I x4,I x5]] p.w fun e w'=>e= .returned (.bool true)∧∃q:KP wd wd.heap.size,w'=q.w:=fun p=>p.calls (Nat.le_refl _) (ref12_same W'segs Wt' Wv' x0 x1 x2 x3 x4 x5 SA sc SB sb p.w (· <wd.heap.size) (fun b hb=>by have:=p.k.size;omega) ((hs1d.mono hKwd).keep p.k fun b hb=>hb) ((hsB.mono hXd.lt).keep p.k fun b hb=>hb) HOP5.out.1)
    have y0:∀p:KP wd wd.heap.size,p.w.cell? ⟨X,26,none⟩=some (.slice SB W'segs.length sb):=KP.cell hXlt ((hXb.cell 26).trans (x_get26 0 _ rfl));have y1:∀p:KP wd wd.heap.size,p.w.cell? ⟨X,27,none⟩=some (I Wt'):=KP.cell hXlt ((hXb.cell 27).trans (x_get26 1 _ rfl));have y2:∀p:KP wd wd.heap.size,p.w.cell? ⟨X,28,none⟩=some (J Wv'):=KP.cell hXlt ((hXb.cell 28).trans (x_get26 2 _ rfl))
    have y3:∀p:KP wd wd.heap.size,p.w.cell? ⟨X,29,none⟩=some (I x0):=KP.cell hXlt ((hXb.cell 29).trans (x_get26 3 _ rfl));have y4:∀p:KP wd wd.heap.size,p.w.cell? ⟨X,30,none⟩=some (I x1):=KP.cell hXlt ((hXb.cell 30).trans (x_get26 4 _ rfl));have y5:∀p:KP wd wd.heap.size,p.w.cell? ⟨X,31,none⟩=some (I x2):=KP.cell hXlt ((hXb.cell 31).trans (x_get26 5 _ rfl));have y6:∀p:KP wd wd.heap.size,p.w.cell? ⟨X,32,none⟩=some (I x3):=KP.cell hXlt ((hXb.cell 32).trans (x_get26 6 _ rfl))
    have y7:∀p:KP wd wd.heap.size,p.w.cell? ⟨X,33,none⟩=some (I x4):=KP.cell hXlt ((hXb.cell 33).trans (x_get26 7 _ rfl));have y8:∀p:KP wd wd.heap.size,p.w.cell? ⟨X,34,none⟩=some (I x5):=KP.cell hXlt ((hXb.cell 34).trans (x_get26 8 _ rfl));have z0:∀p:KP wd wd.heap.size,p.w.cell? ⟨BA,0,none⟩=some (.slice SA W'segs.length sc):=KP.cell hBlt ((hBAd.cell 0).trans rfl)
    have z1:∀p:KP wd wd.heap.size,p.w.cell? ⟨BA,1,none⟩=some (I Wt'):=KP.cell hBlt ((hBAd.cell 1).trans rfl);have z2:∀p:KP wd wd.heap.size,p.w.cell? ⟨BA,2,none⟩=some (J Wv'):=KP.cell hBlt ((hBAd.cell 2).trans rfl);have z3:∀p:KP wd wd.heap.size,p.w.cell? ⟨BA,3,none⟩=some (I x0):=KP.cell hBlt ((hBAd.cell 3).trans rfl);have z4:∀p:KP wd wd.heap.size,p.w.cell? ⟨BA,4,none⟩=some (I x1):=KP.cell hBlt ((hBAd.cell 4).trans rfl)
    have z5:∀p:KP wd wd.heap.size,p.w.cell? ⟨BA,5,none⟩=some (I x2):=KP.cell hBlt ((hBAd.cell 5).trans rfl);have z6:∀p:KP wd wd.heap.size,p.w.cell? ⟨BA,6,none⟩=some (I x3):=KP.cell hBlt ((hBAd.cell 6).trans rfl);have z7:∀p:KP wd wd.heap.size,p.w.cell? ⟨BA,7,none⟩=some (I x4):=KP.cell hBlt ((hBAd.cell 7).trans rfl);have z8:∀p:KP wd wd.heap.size,p.w.cell? ⟨BA,8,none⟩=some (I x5):=KP.cell hBlt ((hBAd.cell 8).trans rfl)
    clear hBAd hXb hs1d hsB hXd;have Hfx:=hid hfx;have Hsw:=hid hsw;have Hkd0:=hid hkd0;have HKwd:=hid hKwd;clear hfx hsw hkd0 hKwd
    rcases her with rfl|rfl
    ·go_upto_region 17 with fail
     refine wp_region_class wd.heap.size (by kernel_rfl) (by kernel_rfl) ?_
     repeat(go_big_quiet_step ((first|exact Hfx.out _|exact Hsw.out _)))
     refine wpQuiet_nil ?_;rintro _ ⟨⟨wq,hkq⟩,rfl⟩;have hkq9:=Hkd0.out.trans (hkq.mono fun b hb=>by have:=Hkd0.out.size;omega)
     clear hkq;have Hkq9:=hid hkq9;clear hkq9
     go_wp2_with fail
     exact hR'.out _ _ ⟨rfl,Hkq9.out⟩
    ·go_upto_region 17 with fail
     refine wp_region_class wd.heap.size (by kernel_rfl) (by kernel_rfl) ?_
     repeat(go_big_quiet_step ((first|exact Hfx.out _|exact Hsw.out _)))
     refine wpQuiet_nil ?_;rintro _ ⟨⟨wq,hkq⟩,rfl⟩;have hkq9:=Hkd0.out.trans (hkq.mono fun b hb=>by have:=Hkd0.out.size;omega)
     clear hkq;have Hkq9:=hid hkq9;clear hkq9
     go_wp2_with fail
     exact hR'.out _ _ ⟨rfl,Hkq9.out⟩
   ·(try dsimp only at hv1 hu1 ht1 hx1 hx2)
    injection hu1 with f0 f1 f2 f3 f4 f5
    subst hv1 ht1 hx1 hx2 f0 f1 f2 f3 f4 f5;obtain⟨_,_,e1,-,-,-,g5⟩:=hs1d;injection e1 with e1 _ _
    subst e1;obtain⟨sb1,so1,rfl,hkb1,hc1⟩:=g5 (by simp)
    obtain⟨_,_,e1,-,-,-,g6⟩:=hsB;injection e1 with e1 _ _
    subst e1;obtain⟨sb2,so2,rfl,hkb2,hc2⟩:=g6 (by simp)
    have hsl1:=hKwd sb1 hkb1;have hsl2:=hXd.lt sb2 hkb2;have hxd:x.docs≤64:=(HGG.out.segs x (by simp)).2.2.1
    have q1:∀p:KP wd wd.heap.size,p.w.cell? ⟨sb1,so1+1,none⟩=some (I (x.docs:Int)):=KP.cell hsl1 (hc1 1 _ rfl);have q2:∀p:KP wd wd.heap.size,p.w.cell? ⟨sb2,so2+1,none⟩=some (I ((x.docs:Int)+1)):=KP.cell hsl2 (hc2 1 _ rfl);have hw1:IntKind.i64.wrap ((x.docs:Int)+1)=(x.docs:Int)+1:=IntWalk.i64_in _ (by omega)
    have hw2:IntKind.u32.wrap (wv+1)=wv+1:=by have:=HGG.out.ver;dsimp only at this hver;exact IntWalk.u32_in _ (by omega)
    have heq:=fun W=>Tryz.eqArr6 x0 x1 x2 x3 x4 x5 W;have y0:∀p:KP wd wd.heap.size,p.w.cell? ⟨X,26,none⟩=some (.slice (some ⟨sb2,so2,none⟩) 1 sb):=KP.cell hXlt ((hXb.cell 26).trans (x_get26 0 _ rfl));have y1:∀p:KP wd wd.heap.size,p.w.cell? ⟨X,27,none⟩=some (I Wt'):=KP.cell hXlt ((hXb.cell 27).trans (x_get26 1 _ rfl));have y2:∀p:KP wd wd.heap.size,p.w.cell? ⟨X,28,none⟩=some (J (wv+1)):=KP.cell hXlt ((hXb.cell 28).trans (x_get26 2 _ rfl))
    have y3:∀p:KP wd wd.heap.size,p.w.cell? ⟨X,29,none⟩=some (I x0):=KP.cell hXlt ((hXb.cell 29).trans (x_get26 3 _ rfl));have y4:∀p:KP wd wd.heap.size,p.w.cell? ⟨X,30,none⟩=some (I x1):=KP.cell hXlt ((hXb.cell 30).trans (x_get26 4 _ rfl));have y5:∀p:KP wd wd.heap.size,p.w.cell? ⟨X,31,none⟩=some (I x2):=KP.cell hXlt ((hXb.cell 31).trans (x_get26 5 _ rfl));have y6:∀p:KP wd wd.heap.size,p.w.cell? ⟨X,32,none⟩=some (I x3):=KP.cell hXlt ((hXb.cell 32).trans (x_get26 6 _ rfl))
    have y7:∀p:KP wd wd.heap.size,p.w.cell? ⟨X,33,none⟩=some (I x4):=KP.cell hXlt ((hXb.cell 33).trans (x_get26 7 _ rfl));have y8:∀p:KP wd wd.heap.size,p.w.cell? ⟨X,34,none⟩=some (I x5):=KP.cell hXlt ((hXb.cell 34).trans (x_get26 8 _ rfl));have z0:∀p:KP wd wd.heap.size,p.w.cell? ⟨BA,0,none⟩=some (.slice (some ⟨sb1,so1,none⟩) 1 sc):=KP.cell hBlt ((hBAd.cell 0).trans rfl)
    have z1:∀p:KP wd wd.heap.size,p.w.cell? ⟨BA,1,none⟩=some (I Wt'):=KP.cell hBlt ((hBAd.cell 1).trans rfl);have z2:∀p:KP wd wd.heap.size,p.w.cell? ⟨BA,2,none⟩=some (J wv):=KP.cell hBlt ((hBAd.cell 2).trans rfl);have z3:∀p:KP wd wd.heap.size,p.w.cell? ⟨BA,3,none⟩=some (I x0):=KP.cell hBlt ((hBAd.cell 3).trans rfl);have z4:∀p:KP wd wd.heap.size,p.w.cell? ⟨BA,4,none⟩=some (I x1):=KP.cell hBlt ((hBAd.cell 4).trans rfl)
    have z5:∀p:KP wd wd.heap.size,p.w.cell? ⟨BA,5,none⟩=some (I x2):=KP.cell hBlt ((hBAd.cell 5).trans rfl);have z6:∀p:KP wd wd.heap.size,p.w.cell? ⟨BA,6,none⟩=some (I x3):=KP.cell hBlt ((hBAd.cell 6).trans rfl);have z7:∀p:KP wd wd.heap.size,p.w.cell? ⟨BA,7,none⟩=some (I x4):=KP.cell hBlt ((hBAd.cell 7).trans rfl);have z8:∀p:KP wd wd.heap.size,p.w.cell? ⟨BA,8,none⟩=some (I x5):=KP.cell hBlt ((hBAd.cell 8).trans rfl)
    clear hBAd hXb hXd g5 g6 hc1 hc2;have Hfx:=hid hfx;have Hkd0:=hid hkd0;have HKwd:=hid hKwd;clear hfx hkd0 hKwd
    go_upto_region 18 with fail
    refine wp_region_class wd.heap.size (by kernel_rfl) (by kernel_rfl) ?_
    repeat(go_big_quiet_step ((exact Hfx.out _)))
    refine wpQuiet_nil ?_;rintro _ ⟨⟨wq,hkq⟩,rfl⟩;have hkq9:=Hkd0.out.trans (hkq.mono fun b hb=>by have:=Hkd0.out.size;omega)
    clear hkq;have Hkq9:=hid hkq9;clear hkq9
    go_wp2_with fail
    exact hR'.out _ _ ⟨rfl,Hkq9.out⟩
end Go.Proofs.YtogdknnkhkjmcaaGreatDoor
namespace Go.Proofs.YtogdknnkhkjmcaaGreatDoor
open Go.RowKit Go.ChangeShapes Go.WideShapes Go.ChangeAt Go.Deep
set_option linter.all false
theorem tab_writeEmpty {W:World}(h:laidMetH Tryz.prog Rows.writeEmptyRow.laid W):FoldTab W:=foldTab_of (l:=Rows.writeEmptyRow.laid) h (by unfold Rows.writeEmptyRow;simp) (by unfold Rows.writeEmptyRow;simp) (by unfold Rows.writeEmptyRow;simp)
theorem pool_writeEmpty {W:World}(h:laidMetH Tryz.prog Rows.writeEmptyRow.laid W):PTab W:=pTab_of (l:=Rows.writeEmptyRow.laid) h (by unfold Rows.writeEmptyRow;simp)
theorem writeEmpty_met (os:Os):laidMet Tryz.prog Rows.writeEmptyRow.laid ((laidWorld12 os).forCall (fun _ _=>0) ⟨#[],#[.agg #[.int .i64 0,.int .i64 0,.int .i64 0,.int .i64 0,.int .i64 0,.int .i64 0,.int .i64 0,.int .i64 0,.float .f64 0,.float .f64 0],.slice none 0 0,.int .u32 0,.int .u8 0],[]⟩).memory:=
 laidMet_of_run' 8 (by kernel_rfl) (by kernel_rfl)
theorem writeEmpty_reads (os:Os){H:Type}(enc:TypeId×Value→H):∃places,DataW.whole enc Tryz.prog ((laidWorld12 os).forCall (fun _ _=>0) ⟨#[],#[.agg #[.int .i64 0,.int .i64 0,.int .i64 0,.int .i64 0,.int .i64 0,.int .i64 0,.int .i64 0,.int .i64 0,.float .f64 0,.float .f64 0],.slice none 0 0,.int .u32 0,.int .u8 0],[]⟩).memory Tryz.f8.params.toList Rows.writeEmptySpec.vars false (#[.agg #[.int .i64 0,.int .i64 0,.int .i64 0,.int .i64 0,.int .i64 0,.int .i64 0,.int .i64 0,.int .i64 0,.float .f64 0,.float .f64 0],.slice none 0 0,.int .u32 0,.int .u8 0]:Array Value).toList 8=some ([.agg [.lit (.int .i64 0),.lit (.int .i64 0),.agg [.lit (.int .i64 0),.lit (.int .i64 0),.lit (.int .i64 0),.lit (.int .i64 0)],.lit (.int .i64 0),.lit (.int .i64 0),.lit (.float .f64 0),.lit (.float .f64 0)],.nil,.lit (.int .u32 0),.lit (.int .u8 0)],[],places):=
 ⟨[],by kernel_rfl⟩
set_option maxRecDepth 100000 in
theorem writeEmpty_lifted (os:Os)(started:os.Started)(H:Type)(enc:TypeId×Value→H)(F:Stop.Interp):
  ReturnsInHanded {} Tryz.checked os 8 .any ((OpenSpec.ofChange Rows.writeEmptySpec).preRow enc Tryz.prog Tryz.f8 Rows.writeEmptyRow.domain false Rows.writeEmptyRow.laid) (((OpenSpec.ofChange Rows.writeEmptySpec).at F).post enc Tryz.prog Tryz.f8 false true false false):=by
 obtain⟨places,hx⟩:=writeEmpty_reads os enc;refine returnsInHanded_of_row (C:=Tryz.checked) (s:=OpenSpec.ofChange Rows.writeEmptySpec) Tryz.own started (by kernel_rfl) Tryz.func8
  (witness_row_at (enc:=enc) (C:=Tryz.checked) false (laidWorld12 os) #[.agg #[.int .i64 0,.int .i64 0,.int .i64 0,.int .i64 0,.int .i64 0,.int .i64 0,.int .i64 0,.int .i64 0,.float .f64 0,.float .f64 0],.slice none 0 0,.int .u32 0,.int .u8 0] rfl (by kernel_rfl) (by kernel_rfl) (by kernel_rfl)
   (OpenSpec.preRow_of_cond 8 hx (by kernel_rfl) (fun k hk=>by cases hk) (by kernel_rfl) (writeEmpty_met os))) ?_
 intro W base args ds gs before hval0 hW _ _ hsz0 hL _ _;have hsz:(DataW.weightsEach Tryz.prog (Tryz.f8.params.toList++(OpenSpec.ofChange Rows.writeEmptySpec).bare.plain.varTypes Tryz.prog) (ds++gs)).all (· ≤reachBytes)=true:=hsz0;have hval:∀(j:Nat) t v,Tryz.f8.params[j]? =some t→args[j]? =some v→Value.okWide Tryz.prog W .any base t v:=hval0;have hW':=hW;obtain⟨p,q,hA0,hV,rfl,hfz,hnd⟩:=hW
 have hA:DataW.TrodAll enc Tryz.prog W 0 (fun _=>true) true Tryz.f8.params.toList args.toList ds p:=hA0;rw[Tryz.params8]at hA hval hsz;obtain⟨v0,vs0,d0,ds0,p0,q0,hargs,rfl,rfl,h0,r0⟩:=trodAll_cons hA;obtain⟨v1,vs1,d1,ds1,p1,q1,rfl,rfl,rfl,h1,r1⟩:=trodAll_cons r0;obtain⟨v2,vs2,d2,ds2,p2,q2,rfl,rfl,rfl,h2,r2⟩:=trodAll_cons r1;obtain⟨v3,vs3,d3,ds3,p3,q3,rfl,rfl,rfl,h3,r3⟩:=trodAll_cons r2
 obtain⟨rfl,rfl,rfl⟩:=trodAll_nil r3;obtain rfl:args=#[v0,v1,v2,v3]:=by cases args;simp_all
 obtain⟨rfl,rfl⟩:=trodVars_none hV;simp only[List.append_nil]at hW';have k0:=h0;have k1:=h1;have k2:=h2;have k3:=h3;have hlt0:∀x∈p0,x.block<W.heap.size:=fun x hx=>by simpa using hW'.lt x (by simp[hx])
 have hlt1:∀x∈p1,x.block<W.heap.size:=fun x hx=>by simpa using hW'.lt x (by simp[hx])
 have hlt2:∀x∈p2,x.block<W.heap.size:=fun x hx=>by simpa using hW'.lt x (by simp[hx])
 have hlt3:∀x∈p3,x.block<W.heap.size:=fun x hx=>by simpa using hW'.lt x (by simp[hx])
 obtain⟨a0,rfl⟩:=open_conf (hval 0 25 v0 rfl rfl) h0;obtain⟨A1,c1,l1,rfl,w10,s1⟩:=open_ops (hval 1 26 v1 rfl rfl) h1;have w1:=w10 fun m hm=>Nat.le_trans (of_decide_eq_true (List.all_eq_true.1 hsz m (DataW.weights_mem_each (j:=1) rfl rfl m hm))) (by decide)
 obtain⟨a2,rfl,rfl,rfl,w2⟩:=open_int Tryz.underlying32 (hval 2 32 v2 rfl rfl) h2;have b2:=bounds_u32 w2;obtain⟨a3,rfl,rfl,rfl,w3⟩:=open_int Tryz.underlying5 (hval 3 5 v3 rfl rfl) h3;have b3:=bounds_u8 w3;clear hA0 hval0;have hwalk:Calls Tryz.prog 8 #[.agg a0.list.toArray,.slice A1 l1.length c1,.int .u32 a2,.int .u8 a3] W fun e W'=>e= .returned (.bool true)∧Keeps (· <W.heap.size) W W':=by
  obtain⟨n3,hn3⟩:∃n:Nat,a3=(n:Int):=⟨a3.toNat,by omega⟩
  rw[hn3];exact law_empty a0 l1 a2 n3 ⟨b2.1,b2.2⟩ (by omega) A1 c1 W (pool_writeEmpty hL) (tab_writeEmpty hL) s1 w1
 refine hwalk.mono fun e W' ⟨he,hg⟩=>?_;subst he;exact⟨_,rfl,_,_,_,_,_,[],hW',trodAll_cons_mk (shut_bool Tryz.underlying4 _) trodAll_mk0,trodAll_cons_mk (arg_kept (by kernel_rfl) (of_decide_eq_true (by kernel_rfl)) k0 hg hlt0) (trodAll_cons_mk (arg_kept (by kernel_rfl) (of_decide_eq_true (by kernel_rfl)) k1 hg hlt1) (trodAll_cons_mk (arg_kept (by kernel_rfl) (of_decide_eq_true (by kernel_rfl)) k2 hg hlt2) (trodAll_cons_mk (arg_kept (by kernel_rfl) (of_decide_eq_true (by kernel_rfl)) k3 hg hlt3) (trodAll_mk0)))),rfl,hg.below.frame _,fun h=>by cases h⟩
theorem writeEmpty_said:Rows.WriteEmptySaid:=
 OpenClaim.holds_of_cond 8 Tryz.f8 rfl rfl rfl rfl rfl rfl rfl ⟨rfl,rfl,rfl,rfl,rfl⟩ rfl rfl rfl rfl rfl (by kernel_rfl) Tryz.func8 (by kernel_rfl)
  (of_decide_eq_true (by kernel_rfl)) (by unfold Func.isWrapper;first|(rw[if_pos (by decide+kernel)];kernel_rfl)|(rw[if_neg (by decide+kernel)];exact⟨rfl,rfl⟩))
  (fun os started H enc _ F=>by rw[OpenClaim.pre_eq_preRow];exact writeEmpty_lifted os started H enc F)
theorem writeEmpty_plain (f : FuncId) (fn : Func) (hf : Tryz.pinned.checked.prog.funcNamed "plover/ploverlaw12.WriteEmpty" = some f) (hfn : Tryz.pinned.checked.prog.funcs[f]? = some fn) :
  false=Tryz.pinned.checked.prog.looks []∧∀(j:Nat) t,fn.params[j]? =some t→Tryz.pinned.checked.prog.wantsStandIn t=false:=by
 obtain rfl : f = 8 := Option.some.inj ((show Tryz.prog.funcNamed "plover/ploverlaw12.WriteEmpty" = some 8 by kernel_rfl).symm.trans hf) |>.symm
 obtain rfl:fn=Tryz.f8:=(Option.some.inj (Tryz.func8.symm.trans hfn)).symm;refine⟨by kernel_rfl,fun j t ht=>?_⟩
 rw[Tryz.params8]at ht;have ht':t=25∨t=26∨t=32∨t=5:=by simpa using Array.mem_of_getElem? ht
 rcases ht' with rfl|rfl|rfl|rfl
 ·exact(show Tryz.prog.wantsStandIn 25=false by kernel_rfl)
 ·exact(show Tryz.prog.wantsStandIn 26=false by kernel_rfl)
 ·exact(show Tryz.prog.wantsStandIn 32=false by kernel_rfl)
 ·exact(show Tryz.prog.wantsStandIn 5=false by kernel_rfl)
theorem writeEmpty_holds:Rows.WriteEmptyCardSaid:=
 Claim7.holds_tied_plain_at .later [] _ _ _ _ writeEmpty_said (fun _ h=>by cases h) (by kernel_rfl) (fun _ h=>by cases h) writeEmpty_row_tie rfl ⟨rfl,rfl⟩ (by kernel_rfl) rfl writeEmpty_plain (by kernel_rfl)
end Go.Proofs.YtogdknnkhkjmcaaGreatDoor
