/- Lemmas on the programs that the statement reaches. -/
import Derived.Test.YtogdknnkhkjmcaaGreatDoorKOpenB
namespace Go.Proofs.YtogdknnkhkjmcaaGreatDoor
open Go.RowKit
set_option linter.all false
def valR (r:Int):Prop:=0≤r∧r≤55295
theorem word_valR {r:Int}(h:isW r=true):valR (foldM r):=by
 have hc:classM r≠0:=by
  intro h0;unfold isW at h;rw[h0]at h
  cases h
 unfold valR;have h1:48≤r∧r≤55203:=by
  rw[classM_ifs]at hc
  omega
 rw[foldM_ifs]
 omega
theorem ofNat_n (n:Nat)(h:n<256):(UInt8.ofNat n).toNat=n:=by
 rw[UInt8.toNat_ofNat',Nat.mod_eq_of_lt h]
set_option maxRecDepth 100000 in
set_option maxHeartbeats 2000000 in
theorem dec_enc (r:Int)(h:valR r)(m:List UInt8):dec0 (encB r++m)=(r.toNat,(encB r).length):=by
 obtain⟨h0,h1⟩:=h;obtain⟨n,rfl⟩:∃n:Nat,r=n:=⟨r.toNat,by omega⟩
 have hv:Utf8.valid (n:Int)=true:=by
  unfold Utf8.valid;have:decide ((n:Int)<0xD800)=true:=decide_eq_true (by omega)
  rw[this]
  simp
 have hn:n≤55295:=by omega
 have hcode:encB (n:Int)=if n<128 then [UInt8.ofNat n]else if n<2048 then [UInt8.ofNat (192+n/64),UInt8.ofNat (128+n%64)]else [UInt8.ofNat (224+n/4096),UInt8.ofNat (128+n/64%64),UInt8.ofNat (128+n%64)]:=by
  unfold encB Utf8.encode;rw[hv];simp only[if_true,Int.toNat_natCast]
  by_cases h1:n<128
  ·rw[if_pos h1,if_pos h1]
  ·rw[if_neg h1,if_neg h1]
   by_cases h2:n<2048
   ·rw[if_pos h2,if_pos h2]
   ·rw[if_neg h2,if_neg h2,if_pos (by omega)]
 rw[hcode,Int.toNat_natCast];clear hcode hv h0 h1
 by_cases h1:n<128
 ·rw[if_pos h1];have e0:gB ([UInt8.ofNat n]++m) 0=n:=ofNat_n n (by omega)
  unfold dec0 Lib.decodeN;rw[e0,if_pos h1]
  rfl
 ·rw[if_neg h1]
  by_cases h2:n<2048
  ·rw[if_pos h2];have e0:gB ([UInt8.ofNat (192+n/64),UInt8.ofNat (128+n%64)]++m) 0=192+n/64:=ofNat_n _ (by omega)
   have e1:gB ([UInt8.ofNat (192+n/64),UInt8.ofNat (128+n%64)]++m) 1=128+n%64:=ofNat_n _ (by omega)
   have el:([UInt8.ofNat (192+n/64),UInt8.ofNat (128+n%64)]++m).length=m.length+2:=by simp
   unfold dec0 Lib.decodeN;rw[e0,e1,el,if_neg (by omega),if_pos (by omega),if_pos (by omega)]
   show(_,2)=(_,2)
   congr 1
   omega
  ·rw[if_neg h2];have e0:gB ([UInt8.ofNat (224+n/4096),UInt8.ofNat (128+n/64%64),UInt8.ofNat (128+n%64)]++m) 0=224+n/4096:=ofNat_n _ (by omega)
   have e1:gB ([UInt8.ofNat (224+n/4096),UInt8.ofNat (128+n/64%64),UInt8.ofNat (128+n%64)]++m) 1=128+n/64%64:=ofNat_n _ (by omega)
   have e2:gB ([UInt8.ofNat (224+n/4096),UInt8.ofNat (128+n/64%64),UInt8.ofNat (128+n%64)]++m) 2=128+n%64:=ofNat_n _ (by omega)
   have el:([UInt8.ofNat (224+n/4096),UInt8.ofNat (128+n/64%64),UInt8.ofNat (128+n%64)]++m).length=m.length+3:=by simp
   unfold dec0 Lib.decodeN;rw[e0,e1,e2,el,if_neg (by omega),if_neg (by omega),if_pos (by omega),if_pos (by omega)]
   show(_,3)=(_,3)
   congr 1
   omega
theorem runesB_enc (r:Int)(h:valR r)(m:List UInt8):runesB (encB r++m)=r::runesB m:=by
 have hp:=encB_pos r;have hd:=dec_enc r h m
 cases he:encB r with
 |nil=>rw[he]at hp;cases hp
 |cons c t=>
  rw[he]at hd;rw[List.cons_append]at hd ⊢;rw[runesB_cons,hd];have:((r.toNat:Nat):Int)=r:=by have:=h.1;omega
  rw[this]
  congr 2
  show(c::(t++m)).drop (c::t).length=m;rw[←List.cons_append,List.drop_left]
theorem runes_textV:∀(l:List Int),(∀r∈l,valR r)→runesB (textB l)=l
 | [],_=>rfl
 |r::l,h=>by
  rw[textB_cons,runesB_enc r (h r (List.mem_cons_self ..)),runes_textV l fun x hx=>h x (List.mem_cons_of_mem _ hx)]
theorem termP_fit (ws:List Int)(h:∀r∈ws,isW r=true):termP ws=⟨(fitL 16 [] (ws.map foldM)).toArray⟩:=by
 unfold termP fitS;rw[runesS_B];show(⟨(fitL 16 [] (runesB (textB (ws.map foldM)))).toArray⟩:ByteArray)=_;rw[runes_textV _ fun r hr=>by
  obtain⟨x,hx,rfl⟩:=List.mem_map.1 hr;exact word_valR (h x hx)]
theorem allL_word:∀(ws:List Int),(∀r∈ws,isW r=true)→∀(o:List UInt8) (fu:Bool) (p:Nat) (r:Int) (l:List Int),isW r=false→
  allL o fu true p (ws++r::l)=(⟨(if fu then o else fitL 16 o (ws.map foldM)).toArray⟩,p)::allL [] false false (p+1) l
 | [],_,o,fu,p,r,l,hr=>by
  rw[List.nil_append,allL_cons,if_pos hr,if_pos rfl]
  cases fu<;>rfl
 |a::ws,hw,o,fu,p,r,l,hr=>by
  have ha:=hw a (List.mem_cons_self ..);have ih:=allL_word ws fun x hx=>hw x (List.mem_cons_of_mem _ hx);rw[List.cons_append,allL_cons,if_neg (by rw[ha];decide),List.map_cons,fitL_cons]
  cases fu with
  |true=>
   rw[Bool.true_or,if_pos rfl,ih _ _ _ _ _ hr]
   rfl
  |false=>
   rw[Bool.false_or]
   by_cases hb:16<o.length+(encB (foldM a)).length
   ·rw[if_pos (decide_eq_true hb),ih _ _ _ _ _ hr,if_pos rfl,if_neg (by decide),if_pos (by omega:(encB (foldM a)).length+o.length>16)]
   ·rw[if_neg (by simpa using hb),ih _ _ _ _ _ hr,if_neg (by decide),if_neg (by decide),if_neg (by omega:¬(encB (foldM a)).length+o.length>16)]
theorem allL_some (o:List UInt8)(fu so:Bool)(p:Nat)(r:Int)(l:List Int)(h:isW r=true):allL o fu so p (r::l)=allL o fu true p (r::l):=by
 have e:¬(true=false):=by decide
 rw[allL_cons,allL_cons,h,if_neg e,if_neg e]
theorem tw_all (f:Int→Bool):∀(l:List Int),∀x∈l.takeWhile f,f x=true
 | [],x,h=>by cases h
 |a::l,x,h=>by
  rw[List.takeWhile_cons]at h
  cases ha:f a with
  |false=>rw[ha]at h;cases h
  |true=>
   rw[ha]at h
   rcases List.mem_cons.1 h with rfl|h
   ·exact ha
   ·exact tw_all f l x h
theorem isW_32:isW 32=false:=rfl
theorem words_eqL:∀(N:Nat) (l:List Int) (p:Nat),l.length≤N→wordsF (allL [] false false p (l++[32]))=wordsR p l
 |_,[],p,_=>by rw[wordsR_nil];rfl
 |0,_::_,_,h=>absurd h (by simp)
 |N+1,r::l,p,h=>by
  rw[List.length_cons]at h;rw[wordsR_cons]
  cases hr:isW r with
  |false=>
   rw[List.cons_append,allL_cons,if_pos hr,if_neg (by decide),if_neg (by decide)]
   exact words_eqL N l p (by omega)
  |true=>
   rw[if_pos rfl];have hsplit:r::l=(r::l.takeWhile isW)++l.dropWhile isW:=by rw[List.cons_append,List.takeWhile_append_dropWhile]
   have hall:∀x∈r::l.takeWhile isW,isW x=true:=fun x hx=>by
    rcases List.mem_cons.1 hx with rfl|hx
    ·exact hr
    ·exact tw_all isW l x hx
   have hterm:=termP_fit _ hall;have hlen:=dw_len l;rw[hsplit];have htw:(r::l.takeWhile isW).length≤(r::l).length:=by
    simp only[List.length_cons];have:=(List.takeWhile_sublist isW (l:=l)).length_le
    omega
   cases hd:l.dropWhile isW with
   |nil=>
    rw[List.append_nil,List.cons_append,allL_some _ _ _ _ _ _ hr,←List.cons_append,allL_word _ hall _ _ _ _ _ isW_32,if_neg (by decide),←hterm]
    have h0:allL [] false false (p+1) []=[]:=rfl;rw[h0];show wordsF [_]=if _ then wordsR (p+1) ([]:List Int)else _::wordsR (p+1) ([]:List Int)
    rw[wordsR_nil];unfold wordsF;rw[List.filter_cons]
    cases stopP (termP (r::l.takeWhile isW))<;>rfl
   |cons d ds=>
    have hdw:isW d=false:=by
     have:=List.head?_dropWhile_not isW l;rw[hd]at this
     simpa using this
    have hdl:ds.length≤N:=by
     rw[hd]at hlen;simp only[List.drop_one,List.tail_cons]at hlen
     omega
    rw[List.append_assoc,List.cons_append,List.cons_append,allL_some _ _ _ _ _ _ hr,←List.cons_append,allL_word _ hall _ _ _ _ _ hdw,if_neg (by decide),←hterm]
    show wordsF (_::_)=if _ then wordsR (p+1) ds else _::wordsR (p+1) ds
    rw[←words_eqL N ds (p+1) hdl];unfold wordsF;rw[List.filter_cons]
    cases stopP (termP (r::l.takeWhile isW))<;>rfl
theorem words_eq (s:ByteArray):wordsF (allS s)=wordsR 0 (runesS s):=words_eqL _ _ _ (Nat.le_refl _)
theorem cls_at0 {p:PlanM}{X Y z a:Int}{n i:Nat}(hX:p.bK 0=X)(hY:p.sK 0=Y)(hn:Y=4*(n:Int))(hz:z=X+4*(i:Int))(h1:z≤a)(h2:a<z+4)(h3:z<X+Y)(hno:∀j,j<0→¬p.has j a):p.cls a=(((0:Nat):Int),a-z):=by
 rw[PlanM.cls_at p a 0 (by omega) hno (by unfold PlanM.has;rw[hX,hY];omega)]
 refine Prod.ext rfl ?_;show(a-p.bK 0)%4=a-z;rw[hX];omega
theorem cls_no0 {p:PlanM}{X Y z a:Int}{n i:Nat}(hX:p.bK 0=X)(hY:p.sK 0=Y)(hn:Y=4*(n:Int))(hz:z=X+4*(i:Int))(h3:¬z<X+Y)(hs:∀j:Nat,j<i→¬(X+4*(j:Int)≤a∧a<X+4*(j:Int)+4)):¬p.has 0 a:=by
 intro h;unfold PlanM.has at h;rw[hX,hY]at h;exact hs ((a-X)/4).toNat (by omega) (by omega)
theorem cls_at1 {p:PlanM}{X Y z a:Int}{n i:Nat}(hX:p.bK 1=X)(hY:p.sK 1=Y)(hn:Y=16*(n:Int))(hz:z=X+16*(i:Int))(h1:z≤a)(h2:a<z+16)(h3:z<X+Y)(hno:∀j,j<1→¬p.has j a):p.cls a=(((1:Nat):Int),a-z):=by
 rw[PlanM.cls_at p a 1 (by omega) hno (by unfold PlanM.has;rw[hX,hY];omega)]
 refine Prod.ext rfl ?_;show(a-p.bK 1)%16=a-z;rw[hX];omega
theorem cls_no1 {p:PlanM}{X Y z a:Int}{n i:Nat}(hX:p.bK 1=X)(hY:p.sK 1=Y)(hn:Y=16*(n:Int))(hz:z=X+16*(i:Int))(h3:¬z<X+Y)(hs:∀j:Nat,j<i→¬(X+16*(j:Int)≤a∧a<X+16*(j:Int)+16)):¬p.has 1 a:=by
 intro h;unfold PlanM.has at h;rw[hX,hY]at h;exact hs ((a-X)/16).toNat (by omega) (by omega)
theorem cls_at2 {p:PlanM}{X Y z a:Int}{n i:Nat}(hX:p.bK 2=X)(hY:p.sK 2=Y)(hn:Y=64*(n:Int))(hz:z=X+64*(i:Int))(h1:z≤a)(h2:a<z+64)(h3:z<X+Y)(hno:∀j,j<2→¬p.has j a):p.cls a=(((2:Nat):Int),a-z):=by
 rw[PlanM.cls_at p a 2 (by omega) hno (by unfold PlanM.has;rw[hX,hY];omega)]
 refine Prod.ext rfl ?_;show(a-p.bK 2)%64=a-z;rw[hX];omega
theorem cls_no2 {p:PlanM}{X Y z a:Int}{n i:Nat}(hX:p.bK 2=X)(hY:p.sK 2=Y)(hn:Y=64*(n:Int))(hz:z=X+64*(i:Int))(h3:¬z<X+Y)(hs:∀j:Nat,j<i→¬(X+64*(j:Int)≤a∧a<X+64*(j:Int)+64)):¬p.has 2 a:=by
 intro h;unfold PlanM.has at h;rw[hX,hY]at h;exact hs ((a-X)/64).toNat (by omega) (by omega)
theorem cls_at3 {p:PlanM}{X Y z a:Int}{n i:Nat}(hX:p.bK 3=X)(hY:p.sK 3=Y)(hn:Y=256*(n:Int))(hz:z=X+256*(i:Int))(h1:z≤a)(h2:a<z+256)(h3:z<X+Y)(hno:∀j,j<3→¬p.has j a):p.cls a=(((3:Nat):Int),a-z):=by
 rw[PlanM.cls_at p a 3 (by omega) hno (by unfold PlanM.has;rw[hX,hY];omega)]
 refine Prod.ext rfl ?_;show(a-p.bK 3)%256=a-z;rw[hX];omega
theorem cls_no3 {p:PlanM}{X Y z a:Int}{n i:Nat}(hX:p.bK 3=X)(hY:p.sK 3=Y)(hn:Y=256*(n:Int))(hz:z=X+256*(i:Int))(h3:¬z<X+Y)(hs:∀j:Nat,j<i→¬(X+256*(j:Int)≤a∧a<X+256*(j:Int)+256)):¬p.has 3 a:=by
 intro h;unfold PlanM.has at h;rw[hX,hY]at h;exact hs ((a-X)/256).toNat (by omega) (by omega)
set_option maxRecDepth 100000 in
set_option maxHeartbeats 8000000 in
theorem class_ref (p:PlanM)(P:Pools)(hP:P.ok)(hl:p.lays P)(a:Int)(w:World)(ha: -9223372036854775808≤a∧a≤9223372036854775807):
  Z 92 #[p.val,I a] w fun e w'=>e= .returned (.tuple #[I (p.cls a).1,I (p.cls a).2])∧Keeps (· <w.heap.size) w w':=by
 obtain⟨ha0,ha1⟩:=ha;have HWF:=hid (hl.wf hP);have HS:=hid hl.s;have HCN:=hid (p.cls_none a);clear hl hP;refine calls_hide fun R' hR'=>?_;unfold PlanM.val
 go_enter Tryz.func92,Tryz.ntmps92
 go_wp2_with fail
 refine wp_gen (fun W=>Blk W w.heap.size p.flat∧Keeps (· <w.heap.size) w W) ⟨Blk.new w p.flat _,(Keeps.refl _ _).alloc (fun b hb=>hb) _⟩ ?_;rintro w0 ⟨hb0,hk0⟩;generalize hB:w.heap.size=B at*;have Hb0:=hid hb0;have Hk0:=hid hk0;have HB:=hid hB;clear hb0 hk0 hB
 go_loopw[6] (fun vi wr=>∃k:Nat,vi=I (k:Int)∧k≤4∧Hid (Blk wr B p.flat∧Keeps (· <B) w wr∧∀j,j<k→¬p.has j a)) (fun i _=>4-(intOf i).toNat)
 case atStart=>exact⟨0,rfl,by omega,hid ⟨Hb0.out,Hk0.out,fun j h=>by omega⟩⟩
 case round=>
  clear Hb0 Hk0;obtain⟨k,rfl,hk,HH⟩:=hrel;obtain⟨hblk,hkp,hno⟩:=HH.out;clear HH;have Hkp:=hid hkp;have Hno:=hid hno;clear hkp hno
  by_cases hk4:k<4
  ·have hcases:k=0∨k=1∨k=2∨k=3:=by omega
   clear hk hk4
   rcases hcases with rfl|rfl|rfl|rfl
   ·have c1:=hblk.cell 0;have zz126:=PLift.up @c643;exact c641
   ·have c1:=hblk.cell 1;have zz127:=PLift.up @c646;exact c644
   ·have c1:=hblk.cell 2;have zz128:=PLift.up @c649;exact c647
   ·have c1:=hblk.cell 3;have zz129:=PLift.up @c652;exact c650
  ·obtain rfl:k=4:=by omega
   clear hblk
   go_wp2_with fail
   refine hR'.out _ _ ⟨?_,?_⟩
   ·rw[HCN.out (fun j hj=>Hno.out j hj)];rfl
   ·exact c11
end Go.Proofs.YtogdknnkhkjmcaaGreatDoor
