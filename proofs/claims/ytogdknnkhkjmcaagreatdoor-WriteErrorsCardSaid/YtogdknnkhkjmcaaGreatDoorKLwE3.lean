/- Lemmas on the programs that the statement reaches. -/
import Derived.Test.YtogdknnkhkjmcaaGreatDoorKLwE1
namespace Go.Proofs.YtogdknnkhkjmcaaGreatDoor
open Go.RowKit Go.Maps
set_option linter.all false
def idLit (x:Int):Lit:= .int .u32 x
def dI (x:Int):DataW Unit:= .lit (.int .i64 x)
theorem idLit_inj {x y:Int}(h:idLit x=idLit y):x=y:=by
 unfold idLit at h;injection h
structure MapIds (D:DataW Unit)(l:List Int):Prop where
 isMap:IsMap D
 val:∀x:Int,D.atKey (idLit x) (dI 0)=dI (if x∈l then 1 else 0)
theorem MapIds.empty:MapIds (.map []) []:=⟨isMap_empty,fun x=>rfl⟩
theorem MapIds.put {D:DataW Unit}{l:List Int}(M:MapIds D l)(x:Int):MapIds (D.put (idLit x) (dI 1)) (l++[x]):=by
 refine⟨M.isMap.put _ _,fun y=>?_⟩
 by_cases e:y=x
 ·subst e;rw[atKey_put_same M.isMap (show WideAt.IsKeyLit (idLit y)from trivial),if_pos (List.mem_append_right _ List.mem_cons_self)]
 ·rw[atKey_put_other (fun h=>e (idLit_inj h)),M.val]
  congr 1
  by_cases h:y∈l
  ·rw[if_pos h,if_pos (List.mem_append_left _ h)]
  ·rw[if_neg h,if_neg (fun g=>by rcases List.mem_append.1 g with g|g;exact h g;exact e (List.mem_singleton.1 g))]
theorem zeroI (w:World):(zeroValue 3).run Tryz.prog w= .ok (I 0) w:=by kernel_rfl
theorem lawU:Keyed Tryz.prog 32:=int_keyed Tryz.underlying32
theorem enc_all:((List.range 13).all fun i=>(Utf8.encode (98+(i:Int))).data.toList==(letB i).data.toList)=true:=by kernel_rfl
theorem enc_let {i:Nat}(h:i<13):Utf8.encode (98+(i:Int))=letB i:=by
 have h1:=List.all_eq_true.1 enc_all i (List.mem_range.2 h);have h2:=Array.toList_inj.1 (eq_of_beq h1);generalize Utf8.encode (98+(i:Int))=x at*;generalize letB i=y at*
 cases x;cases y;simp_all
theorem toks_all:((List.range 13).all fun i=>match toksM [letB i]with|some [(f,b,p)]=>f==0&&(b.data.toList==(letB i).data.toList)&&p==0|_=>false)=true:=by kernel_rfl
theorem toks_let {i:Nat}(h:i<13):toksM [letB i]=some [(0,letB i,0)]:=by
 have h1:=List.all_eq_true.1 toks_all i (List.mem_range.2 h)
 split at h1
 ·rename_i f b p e
  rw[e];simp only[Bool.and_eq_true,beq_iff_eq]at h1;obtain⟨⟨h2,h3⟩,h4⟩:=h1;have h3:=Array.toList_inj.1 h3;generalize letB i=y at*;subst h2 h4
  cases b;cases y;simp_all
 ·cases h1
theorem toks_long:toksM (List.replicate 5 ⟨#[]⟩)=none:=by kernel_rfl
def OpE (C:ConfM)(cs:List Int)(W:WrM)(live:SegM)(s:Nat)(t:Tab)(id:Int)(fs:List ByteArray)(W':WrM)(er:Int)(cs':List Int):Prop:=
 ∃n,(opT C W live ⟨false,id,fs⟩).ideal cs=some ((W',er),cs',n)∧n<1048576∧(0≤er∧er≤7)∧(er≠0→W'=W∧cs'=cs)∧(W'.segs.length≤65536∧cs'.length≤maxLen)∧DoTo C cs W live s t false id fs W' er cs'∧W'.ver≤W.ver+1
section
variable {C:ConfM}{P:Pools}{cs:List Int}{W:WrM}{live:SegM}{s:Nat}{t:Tab}{q:Nat→Nat}{hi i:Nat}{l:List Int}
theorem one_op (G:Good C P cs W live s t q hi)(E:EInv C cs W live t i l)(hi13:i<13)(hb:C.book=20)(hs:C.s0≤5)(ht:C.terms=64)(id:Int)(hid:U32 id)(hv:W.ver+1≤4294967294):
  ∃W' er cs',OpE C cs W live s t id [letB i] W' er cs'∧er=(if id∈l then 6 else if C.docs≤(l.length:Int)then 5 else if C.s0≤(l.length:Int)then 3 else 0)∧
   (er=0→∃live' t' q' hi',Good C P cs' W' live' s t' q' hi'∧EInv C cs' W' live' t' (i+1) (l++[id])):=by
 obtain⟨W1,e1,c1,n1,a1,a2,a3,a4,a5,a6,a7,_⟩:=G.op false id [letB i] hid (by omega)
 obtain⟨W2,e2,c2,n2,_,b2,_,_,b5,b6⟩:=one_step G E hi13 hb hs ht id hid (by omega)
 have h:opT C W live ⟨false,id,[letB i]⟩=addT C W live id [(0,letB i,0)]:=by
  unfold opT;dsimp only;rw[if_neg (by decide),toks_let hi13]
 have a1':=a1;rw[h,b2]at a1';simp only[Option.some.injEq,Prod.mk.injEq]at a1';obtain⟨⟨rfl,rfl⟩,rfl,rfl⟩:=a1';refine⟨W2,e2,c2,⟨n2,a1,a2,a3,a4,a5,a6,a7⟩,b5,fun h0=>?_⟩;obtain⟨t',q',hi',g1,g2⟩:=b6 h0;exact⟨_,t',q',hi',g1,g2⟩
theorem long_op (G:Good C P cs W live s t q hi)(id:Int)(hid:U32 id)(hv:W.ver+1≤4294967294):OpE C cs W live s t id (List.replicate 5 ⟨#[]⟩) W 4 cs:=by
 obtain⟨W1,e1,c1,n1,a1,a2,a3,a4,a5,a6,a7,_⟩:=G.op false id (List.replicate 5 ⟨#[]⟩) hid (by omega)
 have h:opT C W live ⟨false,id,List.replicate 5 ⟨#[]⟩⟩= .ret (W,4):=by
  unfold opT;dsimp only;rw[if_neg (by decide),toks_long]
 have a1':=a1;rw[h]at a1';unfold Tree.ideal at a1';simp only[Option.some.injEq,Prod.mk.injEq]at a1';obtain⟨⟨rfl,rfl⟩,rfl,rfl⟩:=a1';exact⟨_,a1,a2,a3,a4,a5,a6,a7⟩
end
theorem keyU {x:Int}(h:U32 x):keyOf Tryz.prog 32 (J x)=some (idLit x):=by
 simp[keyOf,Tryz.underlying32,mapKey,idLit,Lit.wf]
 exact h
theorem Keeps.ownsMap {K:Nat→Prop}{w w':World}{P:Program}{k:TypeId}{R:Value→Option (DataW Unit×List MemPlace)}{b n:Nat}{D:DataW Unit}(h:Keeps K w w')(hb:K b)(ho:w.ownsMap P k R b n D):w'.ownsMap P k R b n D:=by
 obtain⟨es,clock,h1,h2,h3,h4⟩:=ho;exact⟨es,clock,(h.block b hb).trans h1,h2,h3,h4⟩
theorem grown_keeps {w w':World}{row:Option Nat}(h:w.grownBy w' row):Keeps (fun b=>b<w.heap.size∧some b≠row) w w':=⟨h.os,h.tape,h.output,h.size,fun b hb=>h.block b hb.1 hb.2⟩
@[go_sem] theorem run_store_float {P:Program} {w:World} {a:Addr} {m:Mode} (k:FloatKind) (b:Nat):(store a (.float k b) m).run P w=stored P w a (.float k b) m:=run_store P w a _ m rfl
theorem wd_lts {w0 w:World}{K:Nat→Prop}{X m c:Nat}{C:ConfM}{cs:List Int}{W:WrM}{st:Int}(h:Wd w0 w K X m c C cs W st):X<w.heap.size∧m<w.heap.size∧c<w.heap.size:=by
 obtain⟨_,_,_,_,_,_,g,_⟩:=h.obj;obtain⟨_,g2,_⟩:=h.mem;exact⟨g.lt,g2.obj.lt,g2.cells.lt⟩
theorem wd_stay {w0 w w':World}{K L:Nat→Prop}{X m c:Nat}{C:ConfM}{cs:List Int}{W:WrM}{st:Int}(h:Wd w0 w K X m c C cs W st)(k:Keeps L w w')(hK:∀b,K b→L b)(h1:L X∧L m∧L c)(h0:∀b,b<w0.heap.size→L b):Wd w0 w' K X m c C cs W st:=by
 obtain⟨SA,sc,CA,cc,TA,tc,g1,g2,g3,g4⟩:=h.obj;obtain⟨μ,m1,m2,m3⟩:=h.mem;have hs:=k.size;exact⟨⟨SA,sc,CA,cc,TA,tc,g1.keep k h1.1,g2.keep k hK,g3.keep k hK,g4.keep k hK⟩,⟨μ,m1.keep k h1.2.1 h1.2.2,m2,m3⟩,h.kx,h.km,h.kc,fun b hb=>Nat.lt_of_lt_of_le (h.lt b hb) hs,h.xm,h.xc,h.k0,h.kp.trans (k.mono h0)⟩
theorem Wd.grownM {w0 w w':World}{K:Nat→Prop}{X m c mB:Nat}{C:ConfM}{cs:List Int}{W:WrM}{st:Int}(h:Wd w0 w K X m c C cs W st)(k:Keeps (fun b=>b<w.heap.size∧some b≠some mB) w w')(hx:mB≠X∧mB≠m∧mB≠c∧w0.heap.size≤mB)(hK:¬K mB):Wd w0 w' K X m c C cs W st:=by
 obtain⟨SA,sc,CA,cc,TA,tc,g1,g2,g3,g4⟩:=h.obj;obtain⟨μ,m1,m2,m3⟩:=h.mem;have hs:=k.size;have hl:=wd_lts h;have hKL:∀b,K b→b<w.heap.size∧some b≠some mB:=fun b hb=>⟨h.lt b hb,fun e=>hK (by rw[Option.some.inj e]at hb;exact hb)⟩
 exact⟨⟨SA,sc,CA,cc,TA,tc,g1.keep k ⟨hl.1,fun e=>hx.1 (Option.some.inj e).symm⟩,g2.keep k hKL,g3.keep k hKL,g4.keep k hKL⟩,⟨μ,m1.keep k ⟨hl.2.1,fun e=>hx.2.1 (Option.some.inj e).symm⟩ ⟨hl.2.2,fun e=>hx.2.2.1 (Option.some.inj e).symm⟩,m2,m3⟩,h.kx,h.km,h.kc,fun b hb=>Nat.lt_of_lt_of_le (h.lt b hb) hs,h.xm,h.xc,h.k0,h.kp.trans (k.mono fun b hb=>⟨Nat.lt_of_lt_of_le hb h.kp.size,fun e=>by have:=Option.some.inj e;have:=hx.2.2.2;omega⟩)⟩
theorem infoStrE:(Tryz.prog.info? 9).map (fun i=>(i.zero,i.size,i.bytes))=some (some (.string ⟨#[]⟩),1,16):=by kernel_rfl
def errC (dk sk:Nat):ConfM:=⟨1+(dk:Int),64,(sk:Int),0,0,0,20,200,.float .f64 0,.float .f64 0⟩
theorem errC_ok {dk sk:Nat}(h1:dk<3)(h2:sk<3):((errC dk sk).ok∧(errC dk sk).all≤5000)∧¬(errC dk sk).plan.size.a5<(errC dk sk).plan.live+2:=by
 have e1:(errC dk sk).plan.live=1+4*(1+(dk:Int))+128:=rfl;have e2:(errC dk sk).plan.size.a5=200:=rfl;refine⟨⟨⟨?_,?_,?_,?_,?_,?_,?_,?_,?_,?_,?_,?_,?_,?_,?_,?_⟩,?_⟩,by omega⟩<;>(unfold errC;(try unfold ConfM.all);dsimp only;omega)
theorem einv_new {dk sk:Nat}(h1:dk<3)(h2:sk<3):EInv (errC dk sk) (newC (errC dk sk)) (newW (errC dk sk)) ⟨(errC dk sk).plan.base.a5,0,false⟩ (fun _=>none) 0 []:=
 ⟨rfl,rfl,rfl,rfl,rfl,by show((0:Nat):Int)≤(sk:Int);omega,fun j k a h=>(by cases h),fun d hd=>absurd hd (Nat.not_lt_zero _)⟩
set_option maxRecDepth 100000 in
set_option maxHeartbeats 4000000 in
theorem law_errors (dn sn:Nat)(hdn:dn<256)(hsn:sn<256)(ids:List Int)(A:Option Addr)(c:Nat)(long:Bool)(w:World)(hT:PTab w)(hF:FoldTab w)(hsl:SlAt w (· <w.heap.size) 1 (.slice A ids.length c) ids.length (ids.map (Value.int .u32)))(hu:∀x∈ids,U32 x):
  Z 6 #[.int .u8 dn,.int .u8 sn,.slice A ids.length c,.bool long] w fun e w'=>e= .returned (.bool true)∧Keeps (· <w.heap.size) w w':=by
 obtain⟨dk,hdk,hdm⟩:∃k:Nat,k<3∧Int.tmod (dn:Int) 3=(k:Int):=⟨dn%3,Nat.mod_lt _ (by decide),by rw[Int.tmod_eq_emod_of_nonneg (by omega)];omega⟩
 obtain⟨sk,hsk,hsm⟩:∃k:Nat,k<3∧Int.tmod (sn:Int) 3=(k:Int):=⟨sn%3,Nat.mod_lt _ (by decide),by rw[Int.tmod_eq_emod_of_nonneg (by omega)];omega⟩
 have hw1:IntKind.i64.wrap (1+(dk:Int))=1+(dk:Int):=IntWalk.i64_in _ (by omega)
 obtain⟨hok,hfu⟩:=errC_ok hdk hsk;have hG0:=Good.new (errC dk sk) hok.1 (by omega) hfu
 have hE0:=einv_new hdk hsk;have hbeg:=fun W (hk:Keeps (· <w.heap.size) w W) (hT':PTab W)=>begin_good (errC dk sk) hok hfu w W hT' hk;have hfix:=fun W (hk:Keeps (· <w.heap.size) w W)=>law_fixed (w0:=w) (w:=W) hT hF hk;obtain⟨A',cap,e1,e2,e3,e4,e5⟩:=hsl;injection e1 with e1 _ e1c
 subst e1 e1c;have hcli:(errC dk sk).list=[I (1+(dk:Int)),I 64,I sk,I 0,I 0,I 0,I 20,I 200,.float .f64 0,.float .f64 0]:=rfl;rw[hcli]at hbeg;have H5:=hid e5;have HT:=hid hT;have HF:=hid hF;have HU:=hid hu;have HG0:=hid hG0;have HE0:=hid hE0;have HBEG:=hid hbeg;have HFIX:=hid hfix;clear hT hF hu e3 e4 e5 hG0 hE0 hbeg hfix hcli hok hfu;refine calls_hide fun R' hR'=>?_
 go_enter Tryz.func6,Tryz.ntmps6
 go_upto_region 2 with fail
 have hka:Keeps (· <w.heap.size) w (w.alloc (.cells #[I (1+(dk:Int)),I 64,I sk,I 0,I 0,I 0,I 20,I 200,.float .f64 0,.float .f64 0] 25)):=(Keeps.refl _ _).alloc (fun b hb=>hb) _;have hBC:=Blk.new w [I (1+(dk:Int)),I 64,I sk,I 0,I 0,I 0,I 20,I 200,.float .f64 0,.float .f64 0] 25;generalize w.alloc (.cells #[I (1+(dk:Int)),I 64,I sk,I 0,I 0,I 0,I 20,I 200,.float .f64 0,.float .f64 0] 25)=w1 at*
 have hbeg1:=HBEG.out w1 hka (HT.out.keep (K:=(· <w.heap.size)) hka HT.out.2.2.2.2);have HB1:=hid hbeg1;have hbc:=hBC;obtain⟨c0,c1,c2,c3,c4,c5,c6,c7,c8,c9⟩:=hbc.c10;clear hbc hbeg1;have Hka:=hid hka;have HBC:=hid hBC;clear hka hBC
 go_wp2_with fail
 refine HB1.out.mono ?_;rintro e w2 ⟨X,m,cb,st,rfl,hW,hge,hk2⟩;have hBC2:=HBC.out.keep hk2 HBC.out.lt;have hk2w:=Hka.out.trans (hk2.mono fun b hb=>by have:=Hka.out.size;omega)
 have hXn:X≠w.heap.size∧m≠w.heap.size∧cb≠w.heap.size:=by have:=HBC.out.lt;omega
 have hmm:=@run_makeMap Tryz.prog;clear HB1 Hka HBC hk2 c0 c1 c2 c3 c4 c5 c6 c7 c8 c9;have HW:=hid hW;have HBC2:=hid hBC2;have Hk2w:=hid hk2w;have HXn:=hid hXn;clear hW hBC2 hk2w hXn
 go_upto_region 6 with fail
 have hmp:=World.ownsMap_made (H:=Unit) w2 Tryz.prog 32 (plainElem Tryz.prog 3);have hkm:Keeps (· <w2.heap.size) w2 (w2.alloc (.map #[] 0)):=(Keeps.refl _ _).alloc (fun b hb=>hb) _;have hWm:=wd_stay HW.out hkm HW.out.lt (wd_lts HW.out) (fun b hb=>by have:=Hk2w.out.size;omega)
 have hKm:¬(fun b=>(b<w.heap.size∨w1.heap.size≤b)∧b<w2.heap.size∧b≠X∧b≠m∧b≠cb) w2.heap.size:=fun h=>absurd h.2.1 (Nat.lt_irrefl _);have hBCm:=HBC2.out.keep hkm HBC2.out.lt;have hXm:X<w2.heap.size∧m<w2.heap.size∧cb<w2.heap.size∧w.heap.size<w2.heap.size:=by
  obtain⟨_,_,_,_,_,_,g,_⟩:=HW.out.obj;obtain⟨_,g2,_⟩:=HW.out.mem;exact⟨g.lt,g2.obj.lt,g2.cells.lt,HBC2.out.lt⟩
 generalize w2.alloc (.map #[] 0)=w3 at*;generalize w2.heap.size=mB at*;have hver0:(newW (errC dk sk)).ver≤((0:Nat):Int):=Int.le_refl _;generalize newC (errC dk sk)=cs0 at*;generalize newW (errC dk sk)=W0 at*;have HXM:=hid hXm;clear HW HBC2 Hk2w hkm hXm hmm;have Hmp:=hid hmp;have HWm:=hid hWm;have HBCm:=hid hBCm;clear hmp hWm hBCm
 go_wp2_with fail
 go_loopw[13,14,48] (fun nv uv iv wx=>∃(i:Nat) (l:List Int) (K:Nat→Prop) (cs:List Int) (W:WrM) (live:SegM) (s:Nat) (t:Tab) (q:Nat→Nat) (hi:Nat) (D:DataW Unit) (cn:Nat) (st:Int),nv=I (l.length:Int)∧uv=I (l.length:Int)∧iv=I (i:Int)∧i≤ids.length∧i≤13∧cn≤i∧W.ver≤(i:Int)∧
  Hid (Good (errC dk sk) (errC dk sk).slabs cs W live s t q hi)∧Hid (EInv (errC dk sk) cs W live t i l)∧Hid (Wd w wx K X m cb (errC dk sk) cs W st)∧Hid (wx.ownsMap Tryz.prog 32 (plainElem Tryz.prog 3) mB cn D)∧Hid (MapIds D l∧¬K mB)∧Hid (Blk wx w.heap.size [I (1+(dk:Int)),I 64,I sk,I 0,I 0,I 0,I 20,I 200,.float .f64 0,.float .f64 0])) (fun _ _ iv _=>ids.length-(intOf iv).toNat)
 case atStart=>exact⟨0,[],_,cs0,W0,_,_,_,_,_,_,_,st,rfl,rfl,rfl,Nat.zero_le _,by decide,Nat.le_refl _,hver0,HG0,HE0,HWm,Hmp,hid ⟨MapIds.empty,hKm⟩,HBCm⟩
 case round=>
  clear HG0 HE0 HWm Hmp HBCm hver0;obtain⟨i,l,K,cs,W,live,s,t,q,hi,D,cn,st1,rfl,rfl,rfl,hi0,hi13,hcn,hver,HG,HE,HWr,HMP,HMI,HBC⟩:=hrel
  by_cases hlt:i<ids.length
  ·have hltI:(i:Int)<(ids.length:Int):=by omega
   obtain⟨b,off,rfl,hkb,hc⟩:=H5.out (by omega)
   have hkb:b<w.heap.size:=hkb;have a0:=(World.cell?_of_block (a:=⟨b,off+i,none⟩) (HWr.out.kp.block b hkb)).trans (hc i (J ids[i]) (by rw[List.getElem?_map,List.getElem?_eq_getElem hlt];rfl))
   have hid0:=HU.out ids[i] (List.getElem_mem hlt);generalize ids[i]=id at*;clear hc
   by_cases h12:12<i
   ·have h12I:(12:Int)<(i:Int):=by omega
    exact c94
   ·have h12I:(i:Int)≤12:=by omega
    go_upto_region 12 with fail
    simp only[enc_let (show i<13 by omega)]
    refine wp_gen (fun W=>Blk W wr.heap.size [.string (letB i)]∧Blk W (wr.heap.size+1) [J id,.slice (some ⟨wr.heap.size,0,none⟩) 1 1]∧Keeps (· <wr.heap.size) wr W) ⟨?_,?_,?_⟩ (fun wa HW=>?_)
    ·exact bA
    ·exact bA
    ·exact kA
    obtain⟨hSB,hDB,hka⟩:=HW;have hlwb:w.heap.size<wr.heap.size:=HBC.out.lt;generalize hse:wr.heap.size=sB at*;clear a0;have HSB:=hid hSB;have HDB:=hid hDB;have Hka:=hid hka;have Hse:=hid hse;have Hlwb:=hid hlwb;clear hSB hDB hka hse hlwb
    go_cut[67]from 62 to 67 (fun v wx=>(∃B:Bool,v= .bool B)∧wx=wa)
    case first=>
     cases long with
     |false=>
      go_wp2_with fail
      go_meet
      exact⟨⟨_,rfl⟩,rfl⟩
     |true=>
      go_wp2_with fail
      all_goals
       go_meet
       exact⟨⟨_,rfl⟩,rfl⟩
    case rest=>
     obtain⟨⟨B,rfl⟩,rfl⟩:=hcut
     go_upto_if 67 with fail
     go_cut[]from 68 to 69 (fun wx=>∃(K2:Nat→Prop) (fs:List ByteArray) (FA:Option Addr) (fc:Nat),(fs=[letB i]∨fs=List.replicate 5 ⟨#[]⟩)∧Hid (SlAt wx K2 1 (.slice FA fs.length fc) fs.length (fs.map Value.string))∧Hid (Blk wx (sB+1) [J id,.slice FA fs.length fc])∧Hid (Wd w wx K2 X m cb (errC dk sk) cs W st1∧¬K2 mB)∧Hid (wx.ownsMap Tryz.prog 32 (plainElem Tryz.prog 3) mB cn D)∧Hid (Blk wx w.heap.size [I (1+(dk:Int)),I 64,I sk,I 0,I 0,I 0,I 20,I 200,.float .f64 0,.float .f64 0]))
     case first=>
      have hkw:Keeps (· <wr.heap.size) wr wc:=Hse.out.symm▸Hka.out
      cases B with
      |false=>
       have hWa:=HWr.out.more hkw;have hmo:=hkw.ownsMap HMP.out.lt HMP.out;have hbc:=HBC.out.keep hkw HBC.out.lt;have hsl:=SlAt.of_blkS (n:=1) (sz:=1) (K:=fun b=>K b∨(wr.heap.size≤b∧b<wc.heap.size)) HSB.out (Or.inr ⟨by have:=Hse.out;omega,HSB.out.lt⟩) rfl (by unfold maxLen;omega)
       have HWa:=hid hWa;have Hmo:=hid hmo;have Hbc:=hid hbc;have Hsl:=hid hsl;clear hWa hmo hbc hsl;clear hkw
       go_wp2_with fail
       go_meet
       case rel=>exact⟨_,[letB i],_,_,Or.inl rfl,Hsl,HDB,hid ⟨HWa.out,fun h=>by rcases h with h|h;exact HMI.out.2 h;have:=HMP.out.lt;omega⟩,Hmo,Hbc⟩
      |true=>
       have hmk:=fun w=>run_make_row' (P:=Tryz.prog) 33 9 (.string ⟨#[]⟩) 16 Tryz.underlying33 infoStrE rfl .i64 .i64 5 (by decide) (by decide) w
       simp only[Int.cast_ofNat_Int]at hmk;refine wp_gen (fun W=>W=wc) rfl (fun wy hy=>?_);have HWY:=hid hy;clear hy;have hdb:Blk wy (sB+1) [J id,.slice (some ⟨sB,0,none⟩) 1 1]:=HWY.out▸HDB.out;have d1:=hdb.cell 1;have f1:=hdb.free 1;simp only[List.getElem?_cons_zero,List.getElem?_cons_succ]at d1;have hnb:sB+1≠wy.heap.size:=by have:=hdb.lt;omega
       have HFIN:=hid (show∃wz,wz=((wy.setCell ⟨sB+1,1,none⟩ (.slice (some ⟨wy.heap.size,0,none⟩) 5 5)).alloc (.cells (madeCells #[.string ⟨#[]⟩] 5) 9))∧Keeps (· <wr.heap.size) wr wz∧Blk wz (sB+1) [J id,.slice (some ⟨wy.heap.size,0,none⟩) 5 5]∧Blk wz wy.heap.size (List.replicate 5 (.string ⟨#[]⟩))from by
        refine⟨_,rfl,?_,(hdb.set 1 _).alloc _,?_⟩
        ·have:=Hse.out;have h0:Keeps (· <wr.heap.size) wr wy:=HWY.out▸hkw;exact(h0.setCell (p:=⟨sB+1,1,none⟩) (by show¬sB+1<wr.heap.size;omega) _).alloc (fun b hb=>by have:=h0.size;simp;omega) _
        ·have h0:=made_blk (wy.setCell ⟨sB+1,1,none⟩ (.slice (some ⟨wy.heap.size,0,none⟩) 5 5)) (.string ⟨#[]⟩) 5 9;rw[World.size_setCell]at h0;exact h0)
       have hnl:sB+1<wy.heap.size:=hdb.lt;clear hkw hdb hnb
       go_wp2_with fail
       go_meet
       case rel=>
        obtain⟨wz,hz,z1,z2,z3⟩:=HFIN.out;rw[←hz];exact⟨fun b=>K b∨(wr.heap.size≤b∧b<wz.heap.size),List.replicate 5 ⟨#[]⟩,some ⟨wy.heap.size,0,none⟩,5,Or.inr rfl,SlAt.of_blkS (n:=5) (sz:=1) z3 (Or.inr ⟨by have:=Hse.out;omega,z3.lt⟩) rfl (by unfold maxLen;omega),z2,hid ⟨HWr.out.more z1,fun h=>by rcases h with h|h;exact HMI.out.2 h;have:=HMP.out.lt;omega⟩,z1.ownsMap HMP.out.lt HMP.out,HBC.out.keep z1 HBC.out.lt⟩
     case rest=>
      obtain⟨K2,fs,FA,fc,hfs,HSF,HDB2,HW22,HM2,HC2⟩:=hcut;have HW2:=hid HW22.out.1;have HK0:=hid HW22.out.2;clear HW22;clear HWr HMP HBC HSB HDB Hka;have d1:=HDB2.out.cell 1;have c0:=HC2.out.cell 0;have c2:=HC2.out.cell 2;simp only[List.getElem?_cons_zero,List.getElem?_cons_succ]at d1 c0 c2;have hid9:U32 id:=hid0;have Hi0:=hid hid9;clear hid9
      go_upto_block 2 with fail
      go_cut[18]from 70 to 90 (fun v wx=>∃(W':WrM) (er:Int) (cs':List Int),v=I er∧Hid (wx=wc∧OpE (errC dk sk) cs W live s t id fs W' er cs')∧Hid (er=0→id∉l∧∃live' t' q' hi',Good (errC dk sk) (errC dk sk).slabs cs' W' live' s t' q' hi'∧EInv (errC dk sk) cs' W' live' t' (i+1) (l++[id])))
      case first=>
       rcases hfs with rfl|rfl
       ·obtain⟨W',er,cs',h1,h2,h3⟩:=one_op HG.out HE.out (by omega) rfl (by show(sk:Int)≤5;omega) rfl id Hi0.out (by omega)
        have H1:=hid h1;have H3:=hid h3;simp only[List.length_singleton]at d1;clear h1 h3
        by_cases hin:id∈l
        ·have hval:D.atKey (idLit id) (dI 0)=dI 1:=by rw[HMI.out.1.val,if_pos hin]
         have Hval:=hid hval;clear hval;rw[if_pos hin]at h2;subst h2;clear hin;have zz48:=PLift.up @c300;exact c299
        ·have hval:D.atKey (idLit id) (dI 0)=dI 0:=by rw[HMI.out.1.val,if_neg hin]
         have hnin:=hid hin;have Hval:=hid hval;clear hval;rw[if_neg hin]at h2;clear hin;have hle:(l.length:Int)≤1+(dk:Int):=by
          have h5:=HG.out.docs;rw[HE.out.docs]at h5;exact h5
         have hls:(l.length:Int)≤(sk:Int):=HE.out.fit
         by_cases hdoc:(1+(dk:Int))≤(l.length:Int)
         ·have h4:er=5:=h2.trans (if_pos hdoc);subst h4;have heq:((l.length:Int)==1+(dk:Int))=true:=beq_iff_eq.2 (by omega)
          clear h2 hdoc hle hls;have zz48:=PLift.up @c301;exact c299
         ·have h4:er=if(sk:Int)≤(l.length:Int)then 3 else 0:=h2.trans (if_neg hdoc)
          have hnd:((l.length:Int)==1+(dk:Int))=false:=beq_eq_false_iff_ne.2 (by omega)
          clear h2 hdoc hle
          by_cases hsl:(sk:Int)≤(l.length:Int)
          ·rw[if_pos hsl]at h4;subst h4;have heq:((l.length:Int)==(sk:Int))=true:=beq_iff_eq.2 (by omega)
           clear hsl hls;have zz48:=PLift.up @c302;exact c299
          ·rw[if_neg hsl]at h4;have h3:=hid (H3.out h4);subst h4;have heq:((l.length:Int)==(sk:Int))=false:=beq_eq_false_iff_ne.2 (by omega)
           clear hsl hls H3;have zz48:=PLift.up @c303;exact c299
       ·simp only[List.length_replicate]at d1
        go_wp2_with fail
        go_meet
        exact⟨W,4,cs,rfl,hid ⟨rfl,long_op HG.out id Hi0.out (by omega)⟩,hid (fun h=>absurd h (by decide))⟩
      case rest=>
       obtain⟨W',er,cs',rfl,HWX,HGO⟩:=hcut;clear d1 c0 c2;obtain⟨hwx,hop⟩:=HWX.out;subst hwx;have hfn:fs.length≤5:=by rcases hfs with rfl|rfl<;>simp
       obtain⟨n,o1,o2,o3,o4,o5,o6,o7⟩:=hop;obtain⟨SA,sc,CA,cc,TA,tc,hX,hs1,hsc,hs2⟩:=HW2.out.obj;have hwant:=law_want X m (errC dk sk) W HG.out SA TA CA W.segs.length sc tc cc false id fs FA fc wc K2 HW2.out.lt hX hsc hs2 HSF.out (by omega) (by omega) o6
       have hdb:=HDB2.out;have HDO:=hid (show∀wx Kx,Wd w wx Kx X m cb (errC dk sk) cs W st1→SlAt wx Kx 1 (.slice FA fs.length fc) fs.length (fs.map Value.string)→_ from fun wx Kx hWx hsx=>law_do hWx HG.out HT.out HF.out false id fs FA fc hsx (by omega) Hi0.out (by omega) o1 o2 o3 (fun h=>(o4 h).1) o5 o6)
       have HWN:=hid hwant;have HO4:=hid o4;have ho7:=o7;have ho3:=o3;clear hX hs1 hsc hs2 hwant o1 o2 o3 o4 o5 o6 o7 hfs HWX hfn;generalize hfl:fs.length=fn at*;obtain⟨d0,d1⟩:=hdb.c2;have hlts:=wd_lts HW2.out;clear hdb;have Hfl:=hid hfl;have Hlts:=hid hlts;have Ho3:=hid ho3;have Ho7:=hid ho7;clear hfl hlts ho3 ho7
       go_wp2_with fail
       refine HWN.out.mono ?_;rintro e wq ⟨cv,sv,rfl,⟨A3,c3,rfl,-⟩,⟨A4,c4,rfl,-⟩,hkq⟩;obtain⟨W'segs,Wt',Wv',x0,x1,x2,x3,x4,x5⟩:=W';unfold WrM.vals;dsimp only;clear HWN d0 d1;have Hkq:=hid hkq;clear hkq
       go_upto_region 24 with fail
       refine wp_gen (fun W=>Keeps (· <wc.heap.size) wc W) ?_ (fun wz hkz=>?_)
       ·exact Hkq.out.alloc (fun b hb=>by have:=Hkq.out.size;omega) _
       have hWz:=HW2.out.more hkz;have hMz:=hkz.ownsMap HM2.out.lt HM2.out;have hCz:=HC2.out.keep hkz HC2.out.lt;have hDz:=HDB2.out.keep hkz HDB2.out.lt;have hSz:=(HSF.out.keep hkz HW2.out.lt).mono (L:=fun b=>K2 b∨(wc.heap.size≤b∧b<wz.heap.size)) fun b hb=>Or.inl hb;have hdo:=HDO.out wz _ hWz hSz;have hlz:=wd_lts hWz;obtain⟨d0,d1⟩:=hDz.c2;have hse2:=HDB2.out.lt;have hK3:¬(K2 mB∨(wc.heap.size≤mB∧mB<wz.heap.size)):=fun h=>by rcases h with h|h;exact HK0.out h;have:=HM2.out.lt;omega
       clear HW2 HM2 HC2 HDB2 HSF HDO Hkq hkz hSz HK0;have hXm3:=HXM.out;have hne:(mB≠X∧mB≠m∧mB≠cb)∧(w.heap.size≠X∧w.heap.size≠m∧w.heap.size≠cb):=by
        have:=HXn.out
        omega
       clear hXm3;have HWz:=hid hWz;have HMz:=hid hMz;have HCz:=hid hCz;have HDz:=hid hDz;have Hdo:=hid hdo;have Hlz:=hid hlz;have Hse2:=hid hse2;have Hne:=hid hne;have HK3:=hid hK3;clear hWz hMz hCz hDz hdo hlz hse2 hne hK3
       go_wp2_with fail
       refine Hdo.out.mono ?_;rintro e wd ⟨rfl,⟨st2,hWd,-⟩,hkd⟩;have hMD:=hkd.ownsMap ⟨HMz.out.lt,Hne.out.1⟩ HMz.out;have hCd:=HCz.out.keep hkd ⟨HCz.out.lt,Hne.out.2⟩;have hKn:¬((K2 mB∨(wc.heap.size≤mB∧mB<wz.heap.size))∨(wz.heap.size≤mB∧mB<wd.heap.size)):=fun h=>by rcases h with h|h;exact HK3.out h;have:=HMz.out.lt;omega
       clear Hdo HWz HMz HCz HDz Hse2 hkd d0 d1 Hlz HK3;have HWd:=hid hWd;have HMD:=hid hMD;have HCd:=hid hCd;have HKn:=hid hKn;clear hWd hMD hCd hKn
       by_cases he0:er=0
       ·obtain⟨hnin,live',t',q',hi',hG',hE'⟩:=HGO.out he0;subst he0;have hval:D.atKey (idLit id) (dI 0)=dI 0:=by rw[HMI.out.1.val,if_neg hnin]
        have hMI2:=HMI.out.1.put id;have hll:(l.length:Int)≤1+(dk:Int):=by
         have h5:=HG.out.docs;rw[HE.out.docs]at h5;exact h5
        have HG':=hid hG';have HE':=hid hE';have Hval:=hid hval;have HMI2:=hid hMI2;clear hG' hE' hval hMI2;clear hnin
        go_wp2_with (first|(at_lookup;refine wpList_lookup_own_int _ rfl _ _ 77 rfl 32 3 .i64 lawU Tryz.underlying77 Tryz.underlying3 (zeroI _) mB cn D rfl HMD.out _ (idLit id) rfl (keyU Hi0.out) ?_;intro cv hat hwc;have hat2:=Hval.out.symm.trans hat;unfold dI at hat2;injection hat2 with hat2;injection hat2 with _ hat2;subst hat2;clear hwc;clear hat)|(at_mapUpdate;refine wpList_mapUpdate_own _ (by rfl) _ _ _ 77 (by rfl) 32 3 lawU Tryz.underlying77 (plainElem Tryz.prog 3) mB cn D ?z9 ?z10 ?z11 (J id) (I 1) (idLit id) ?z15 ?z16 ?z17 (.lit (.int .i64 1)) [] ?z20 ?z21))
        case z10=>exact HMD.out
        case z11=>unfold maxLen;omega
        case z17=>exact keyU Hi0.out
        case z20=>exact plainElem_int Tryz.underlying3 (by decide)
        intro w5 hown5 hg5;have hk5:=grown_keeps hg5;have hCe:=HCd.out.keep hk5 ⟨HCd.out.lt,fun e=>by have:=Option.some.inj e;have:=HXM.out;omega⟩
        have hWe:=HWd.out.grownM hk5 ⟨Hne.out.1.1,Hne.out.1.2.1,Hne.out.1.2.2,by have:=HXM.out;omega⟩ HKn.out
        clear HWd HMD HCd hg5 hk5;have HCe:=hid hCe;have HWe:=hid hWe;have Hown5:=hid hown5;clear hCe hWe hown5
        go_wp2_with fail
        go_roundw
        case rel=>exact⟨i+1,l++[id],_,cs',_,live',s,t',q',hi',_,cn+1,st2,by rw[List.length_append];go_num,by rw[List.length_append];go_num,by go_num,by omega,by omega,by omega,by have h:=Ho7.out;show Wv'≤((i+1:Nat):Int);omega,HG',HE',HWe,Hown5,hid ⟨HMI2.out,HKn.out⟩,HCe⟩
        case measure=>exact msA
       ·have heb:(er==0)=false:=beq_eq_false_iff_ne.2 he0;obtain⟨hW1,hc1⟩:=HO4.out he0;have hE1:=HE.out.more;have HE1:=hid hE1;have HW1:=hid hW1;subst hc1;clear hE1 hW1
        go_wp2_with fail
        go_roundw
        case rel=>exact⟨i+1,l,_,cs',W,live,s,t,q,hi,D,cn,st2,rfl,rfl,by go_num,by omega,by omega,by omega,by omega,HG,HE1,hid (HW1.out▸HWd.out),HMD,hid ⟨HMI.out.1,HKn.out⟩,HCd⟩
        case measure=>exact msA
  ·obtain rfl:i=ids.length:=by omega
   have hltI:¬(ids.length:Int)<(ids.length:Int):=by omega
   exact c94
end Go.Proofs.YtogdknnkhkjmcaaGreatDoor
