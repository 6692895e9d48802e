/- Layer 12 (write): contract of terms. -/
import Derived.Test.YtogdknnkhkjmcaaGreatDoorJWrA
import Derived.Test.YtogdknnkhkjmcaaGreatDoorJGoodB
namespace Go.Proofs.YtogdknnkhkjmcaaGreatDoor
open Go.RowKit
set_option linter.all false
theorem Tryz.infoTerm:(Tryz.prog.info? 154).map (fun i=>(i.zero,i.size,i.bytes))=some (some (.agg #[.string ⟨#[]⟩,I 0,I 0,I 0]),4,40):=by kernel_rfl
theorem TermM.len4 (t:TermM):t.cells.length=4:=rfl
def TermOwn (w:World)(K:Nat→Prop)(v:Value)(l:List TermM):Prop:=
 w.ownsRow 0 154 4 v l.length (l.flatMap TermM.cells)∧∀b,v.ownBlock=some b→¬K b
theorem bsL_key (f:Int)(t:ByteArray)(h:0≤f∧f≤255):bsL (keyB f t)=f::bsL t:=by
 unfold bsL keyB;rw[ByteArray.data_append,Array.toList_append,List.map_append];show((UInt8.ofNat f.toNat).toNat:Int)::_=_;rw[UInt8.toNat_ofNat',Nat.mod_eq_of_lt (by omega)]
 congr 1
 omega
theorem key_of {s t:ByteArray}{f:Int}(h:0≤f∧f≤255)(e:bsL s=f::bsL t):s=keyB f t:=bsL_inj (e.trans (bsL_key f t h).symm)
theorem keyB_size (f:Int)(t:ByteArray):(keyB f t).size=t.size+1:=by
 unfold keyB;rw[ByteArray.size_append];show 1+t.size=_
 omega
theorem keyIx_at {key:ByteArray}{l:List TermM}{i:Nat}{t:TermM}(h:l[i]? =some t)(he:(t.key.toList==key.toList)=true)(hn:∀j t',j<i→l[j]? =some t'→(t'.key.toList==key.toList)=false):keyIx key l=i:=by
 obtain⟨hi,ht⟩:=List.getElem?_eq_some_iff.1 h;unfold keyIx;rw[List.findIdx_eq hi];refine⟨by rw[ht];exact he,fun j hj=>?_⟩
 have hjl:j<l.length:=by omega
 rw[hn j l[j] hj (List.getElem?_eq_getElem hjl)]
theorem keyIx_none {key:ByteArray}{l:List TermM}(hn:∀j t',j<l.length→l[j]? =some t'→(t'.key.toList==key.toList)=false):l[keyIx key l]? =none:=by
 have:keyIx key l=l.length:=by
  unfold keyIx;rw[List.findIdx_eq_length];intro x hx;obtain⟨j,hj,rfl⟩:=List.getElem_of_mem hx;rw[hn j _ hj (List.getElem?_eq_getElem hj)]
 rw[this,List.getElem?_eq_none (Nat.le_refl _)]
theorem termsT_cons (s0:Int)(n:Nat)(x:TokI)(l:List TokI)(out:List TermM)(s:St):(termsT s0 n (x::l) out).exec s=match out[keyIx (keyB x.1 x.2.1) out]? with
  |some t=>(termsT s0 n l (out.set (keyIx (keyB x.1 x.2.1) out) { t with cnt:=t.cnt+1 })).exec s
  |none=>(termsT s0 n l (out++[((lookT s0 n (keyB x.1 x.2.1)).exec s).1])).exec ((lookT s0 n (keyB x.1 x.2.1)).exec s).2:=by
 have e:termsT s0 n (x::l) out=match out[keyIx (keyB x.1 x.2.1) out]? with
  |some t=>termsT s0 n l (out.set (keyIx (keyB x.1 x.2.1) out) { t with cnt:=t.cnt+1 })
  |none=>(lookT s0 n (keyB x.1 x.2.1)).bind fun t=>termsT s0 n l (out++[t]):=rfl
 rw[e]
 cases out[keyIx (keyB x.1 x.2.1) out]? with
 |some t=>rfl
 |none=>exact Tree.exec_bind _ _ _
theorem lookT_exec (s0:Int)(n:Nat)(key:ByteArray)(s:St):(lookT s0 n key).exec s=if((findK s0 n key).exec s).1.1=0 then(⟨key,0,0,1⟩,((findK s0 n key).exec s).2)else(⟨key,((findK s0 n key).exec s).1.1,(((findK s0 n key).exec s).2.load ((findK s0 n key).exec s).1.1).1,1⟩,(((findK s0 n key).exec s).2.load ((findK s0 n key).exec s).1.1).2):=by
 unfold lookT;rw[Tree.exec_bind]
 split<;>rfl
set_option maxRecDepth 100000 in
set_option maxHeartbeats 4000000 in
theorem write_terms {w:World}{K:Nat→Prop}{r m c:Nat}{s:St}(h:RM w K r m c s)(s0:Int)(n:Nat)(toks:List TokI)(A:Option Addr)(cp:Nat)(hsl:SlAt w K 3 (.slice A toks.length cp) toks.length (toks.flatMap tokI))
  (hs:0≤s0∧s0≤65536) (hn:1≤n∧n≤65536) (ht:∀t∈toks,(0≤t.1∧t.1≤255)∧t.2.1.size≤1000) (hl:toks.length≤65536):
  Calls Tryz.prog 51 #[.pointer (some ⟨r,0,none⟩),I s0,I n,.slice A toks.length cp] w fun e w'=>
   ∃v,e= .returned v∧RM w' (fun b=>K b∨v.ownBlock=some b) r m c ((termsT s0 n toks []).exec s).2∧TermOwn w' K v ((termsT s0 n toks []).exec s).1∧Keeps K w w':=by
 have hfind:=fun(W:World) (K':Nat→Prop) (s':St) (hW:RM W K' r m c s') (t:ByteArray) (ht:t.size≤2000)=>dict_find hW s0 n t hs hn (by omega)
 generalize hres:(termsT s0 n toks []).exec s=res;have hlt:=h.lt;have hcp:=hsl.capOf;unfold maxLen at hcp;obtain⟨hcp0,hcp1⟩:=hcp;obtain⟨hs0,hs1⟩:=hs;obtain⟨hn0,hn1⟩:=hn;have hR0:RM w (fun b=>K b∨(Value.slice none 0 0).ownBlock=some b) r m c s:=h.mono (fun b hb=>hb.resolve_right (by intro e;cases e))
 have Hsl:=hid hsl;have Ht:=hid ht;have Hfind:=hid hfind;have Hlt:=hid hlt;have Hres:=hid hres;have HR0:=hid hR0;clear hsl ht hfind hlt hres hR0;clear h;refine calls_hide fun R' hR'=>?_
 go_enter Tryz.func51,Tryz.ntmps51
 go_wp2_with fail
 go_step3
 go_wp2_with fail
 go_step3
 go_wp2_with fail
 go_loopw[9,17] (fun ov iv wx=>∃(i:Nat) (s':St) (out:List TermM) (A':Option Addr) (cp':Nat),ov= .slice A' out.length cp'∧iv=I (i:Int)∧i≤toks.length∧out.length≤i∧Hid (∀t∈out,0≤t.cnt∧t.cnt≤(i:Nat))∧Hid ((termsT s0 n (toks.drop i) out).exec s'=res)∧
   Hid (RM wx (fun b=>K b∨(Value.slice A' out.length cp').ownBlock=some b) r m c s')∧Hid (TermOwn wx K (.slice A' out.length cp') out)∧Hid (Keeps K w wx)) (fun _ iv _=>toks.length-(intOf iv).toNat)
 case atStart=>exact⟨0,s,[],none,0,rfl,rfl,Nat.zero_le _,Nat.zero_le _,hid (fun t ht=>by cases ht),Hres,HR0,hid ⟨World.ownsRow_nil _ _ _ _,fun b hb=>by cases hb⟩,hid (Keeps.refl _ _)⟩
 case round=>
  obtain⟨i,s',out,A',cp',rfl,rfl,hi,hol,HC,HX,HR,HO,HK⟩:=hrel
  by_cases hlt:i<toks.length
  ·have hltI:(i:Int)<(toks.length:Int):=by omega
   obtain⟨⟨tf,tt,tp⟩,hx⟩:∃x,toks[i]? =some x:=⟨_,List.getElem?_eq_getElem hlt⟩;obtain⟨b0,o0,rfl,hkb,g1⟩:=SlAt.rec (f:=tokI) (fun _ _=>rfl) Hsl.out i _ hx;obtain⟨⟨tf0,tf1⟩,tts⟩:=Ht.out _ (List.mem_of_getElem? hx);dsimp only at tf0 tf1 tts;have hh0:=Hlt.out _ hkb;have zz117:=@c589;exact c587
  ·obtain rfl:i=toks.length:=by omega
   have hltI:¬(toks.length:Int)<(toks.length:Int):=by omega
   have hfin:(out,s')=res:=by rw[←HX.out,List.drop_length];rfl
   clear HX HC;have Hfin:=hid hfin;clear hfin
   go_wp2_with fail
   exact hR'.out _ _ ⟨_,rfl,by rw[←Hfin.out];exact HR.out,by rw[←Hfin.out];exact HO.out,HK.out⟩
def runesF (s:ByteArray):Nat→Nat→List Int
 |0,_=>[]
 |f+1,p=>if p<s.size then((Utf8.decode s p).1:Int)::runesF s f (p+(Utf8.decode s p).2)else []
def runesS (s:ByteArray):List Int:=runesF s s.size 0
theorem decode_pos (s:ByteArray)(p:Nat):0<(Utf8.decode s p).2:=by
 simp only[Utf8.decode]
 repeat' split
 all_goals simp
theorem runesF_succ (s:ByteArray)(f p:Nat):runesF s (f+1) p=if p<s.size then((Utf8.decode s p).1:Int)::runesF s f (p+(Utf8.decode s p).2)else []:=rfl
theorem runesF_more (s:ByteArray):∀(f p:Nat),s.size≤p+f→runesF s (f+1) p=runesF s f p
 |0,p,h=>by
  rw[runesF_succ,if_neg (by omega)];rfl
 |f+1,p,h=>by
  have hd:=decode_pos s p;rw[runesF_succ s (f+1) p,runesF_succ s f p]
  by_cases hp:p<s.size
  ·rw[if_pos hp,if_pos hp,runesF_more s f _ (by omega)]
  ·rw[if_neg hp,if_neg hp]
theorem runesF_any (s:ByteArray)(f p:Nat)(h:s.size≤p+f):∀g,runesF s (f+g) p=runesF s f p
 |0=>rfl
 |g+1=>by rw[←Nat.add_assoc,runesF_more s (f+g) p (by omega),runesF_any s f p h g]
theorem runesF_next {s:ByteArray}{f p:Nat}(hp:p<s.size)(h:s.size≤p+f):runesF s f p=((Utf8.decode s p).1:Int)::runesF s f (p+(Utf8.decode s p).2):=by
 obtain⟨f,rfl⟩:∃f',f=f'+1:=⟨f-1,by omega⟩
 have hd:=decode_pos s p;rw[runesF_succ,if_pos hp,runesF_any s f _ (by omega) 1]
theorem runesF_end {s:ByteArray}{f p:Nat}(hp:¬p<s.size):runesF s f p=[]:=by
 cases f with
 |zero=>rfl
 |succ f=>rw[runesF_succ,if_neg hp]
theorem decode_four (s:ByteArray)(p:Nat):(Utf8.decode s p).2≤4:=by
 simp only[Utf8.decode]
 repeat' split
 all_goals simp
theorem runesF_len (s:ByteArray):∀f p,(runesF s f p).length≤f
 |0,_=>Nat.le_refl _
 |f+1,p=>by
  unfold runesF
  split
  ·have:=runesF_len s f (p+(Utf8.decode s p).2);simp;omega
  ·simp
structure ItRow (w wr:World)(s:ByteArray)(pos:Nat)(E:TypeId)(f:Int→Value)(v:Value)(acc:List Int):Prop where
 it:wr.heap[w.heap.size]? =some (.stringIter s pos)
 own:wr.ownsRow (w.heap.size+1) E 1 v acc.length (acc.map f)
 keeps:Keeps (· <w.heap.size) w wr
 lt:w.heap.size<wr.heap.size
theorem ItRow.iter {w wr:World}{s:ByteArray}{pos:Nat}{E:TypeId}{f:Int→Value}{v:Value}{acc:List Int}(h:ItRow w wr s pos E f v acc)(pos':Nat):ItRow w (wr.iterAt w.heap.size s pos') s pos' E f v acc:=by
 have k:Keeps (· ≠w.heap.size) wr (wr.iterAt w.heap.size s pos'):=⟨rfl,rfl,rfl,by rw[Lib.iterAt_size];exact Nat.le_refl _,fun b hb=>Lib.iterAt_other wr w.heap.size b s pos' hb⟩
 exact⟨Lib.iterAt_heap wr w.heap.size s pos pos' h.it,ownB_keep h.own k (fun b hB _ _=>by show b≠w.heap.size;omega),h.keeps.trans (k.mono fun b hb=>by show b≠w.heap.size;omega),by rw[Lib.iterAt_size];exact h.lt⟩
theorem ItRow.push {w wr w2 w':World}{s:ByteArray}{pos:Nat}{E:TypeId}{f:Int→Value}{v v':Value}{acc acc':List Int}(h:ItRow w wr s pos E f v acc)(k:Keeps (· <wr.heap.size) wr w2)(hown:w'.ownsRow (w.heap.size+1) E 1 v' acc'.length (acc'.map f))(hg:w2.grownBy w' v.ownBlock):ItRow w w' s pos E f v' acc':=by
 have ho:=ownB_keepS h.own k;have hs:=k.size;have hlt:=h.lt;refine⟨?_,hown,keeps_grown (h.keeps.trans (k.mono fun b hb=>by omega)) (by omega) (B:=w.heap.size) (E:=E) (n:=acc.length) (sz:=1) (xs:=acc.map f) ⟨ho.1,?_⟩ hg,Nat.lt_of_lt_of_le (Nat.lt_of_lt_of_le hlt hs) hg.size⟩
 ·rw[hg.block _ (by omega) (fun e=>by have:=(ownB_lt ho e.symm).1;omega),k.block _ hlt]
  exact h.it
 ·rcases ho.2 with h1|⟨g,c,cur,h1,h2,h3⟩
  ·exact Or.inl h1
  ·exact Or.inr ⟨g,c,cur,h1,by omega,h3⟩
theorem ItRow.new {w wr:World}{s:ByteArray}{pos:Nat}{E:TypeId}{f:Int→Value}{v:Value}{acc:List Int}(h:ItRow w wr s pos E f v acc):NewRow w wr E f v acc:=by
 refine⟨⟨h.own.1,?_⟩,h.keeps⟩
 rcases h.own.2 with h1|⟨g,c,cur,h1,h2,h3⟩
 ·exact Or.inl h1
 ·exact Or.inr ⟨g,c,cur,h1,by omega,h3⟩
theorem Tryz.infoI32:(Tryz.prog.info? 21).map (fun i=>(i.zero,i.size,i.bytes))=some (some (.int .i32 0),1,4):=by kernel_rfl
set_option maxRecDepth 100000 in
set_option maxHeartbeats 1000000 in
theorem utf_runes (s:ByteArray)(hs:s.size≤17592186044416)(w:World):Calls Tryz.prog 96 #[.string s] w fun e w'=>∃v,e= .returned v∧NewRow w w' 21 (Value.int .i32) v (runesS s):=by
 have h0:ItRow w (w.iter s 0) s 0 21 (Value.int .i32) (.slice none 0 0) []:=⟨World.iter_heap w s 0,⟨rfl,Or.inl ⟨rfl,rfl⟩⟩,(Keeps.refl _ _).alloc (fun b hb=>hb) _,by simp[World.iter]⟩
 have H0:=hid h0;clear h0;refine calls_hide fun R' hR'=>?_
 go_enter Tryz.func96,Tryz.ntmps96
 go_wp2_with fail
 go_loopw[3] (fun ov wr=>∃(pos:Nat) (acc:List Int) (A:Option Addr) (cp:Nat),ov= .slice A acc.length cp∧acc.length≤pos∧pos≤s.size+4∧wr.heap[w.heap.size]? =some (.stringIter s pos)∧Hid (ItRow w wr s pos 21 (Value.int .i32) (.slice A acc.length cp) acc)∧Hid (acc++runesF s s.size pos=runesS s)) (fun _ wr=>s.size+4-wr.iterPos w.heap.size)
 case atStart=>exact⟨0,[],none,0,rfl,Nat.le_refl _,Nat.zero_le _,H0.out.it,H0,hid rfl⟩
 case round=>
  obtain⟨pos,acc,A,cp,rfl,hap,hps,hit,HR,HE⟩:=hrel
  by_cases hp:pos<s.size
  ·have hnx:∀ty,(Instr.next (.pointer (some ⟨w.heap.size,0,none⟩)) true ty).run Tryz.prog wr=_:=fun ty=>Lib.run_next_any_at wr w.heap.size s pos ty hit hp
   have zz46:=@c300;exact c299
  ·have hnx:∀ty,(Instr.next (.pointer (some ⟨w.heap.size,0,none⟩)) true ty).run Tryz.prog wr=_:=fun ty=>Lib.run_next_end_at wr w.heap.size s pos ty hit hp
   have hex:=HE.out;rw[runesF_end hp,List.append_nil]at hex;have Hex:=hid hex;clear hex
   go_wp2_with fail
   exact hR'.out _ _ ⟨_,rfl,by have:=HR.out.new;rw[Hex.out]at this;rw[Hex.out];exact this⟩
def encB (r:Int):List UInt8:=(Utf8.encode r).data.toList
def textB (rs:List Int):List UInt8:=rs.flatMap encB
def textS (rs:List Int):ByteArray:=⟨(textB rs).toArray⟩
def u8v (b:UInt8):Value:= .int .u8 (b.toNat:Int)
theorem enc_size (r:Int):(Utf8.encode r).size=(encB r).length:=rfl
theorem encB_four (r:Int):(encB r).length≤4:=by
 unfold encB;simp only[Utf8.encode]
 repeat' split
 all_goals simp
theorem encB_pos (r:Int):0<(encB r).length:=by
 unfold encB;simp only[Utf8.encode]
 repeat' split
 all_goals simp
theorem textB_len (rs:List Int):(textB rs).length≤4*rs.length:=by
 induction rs with
 |nil=>simp[textB]
 |cons r rs ih=>
  have:=encB_four r;simp only[textB,List.flatMap_cons,List.length_append,List.length_cons]at*
  omega
theorem textB_snoc (rs:List Int)(r:Int):textB (rs++[r])=textB rs++encB r:=by simp[textB]
theorem textB_cons (rs:List Int)(r:Int):textB (r::rs)=encB r++textB rs:=by simp[textB]
def NewB (w0 w:World)(v:Value)(bs:List UInt8):Prop:=w.ownsRow w0.heap.size 5 1 v bs.length (bs.map u8v)∧Keeps (· <w0.heap.size) w0 w
theorem NewB.app {w0 wr w':World}{v v':Value}{acc:List UInt8}{r:Int}(h:NewB w0 wr v acc)(hown:w'.ownsRow w0.heap.size 5 1 v' (acc.length+(Utf8.encode r).size)(acc.map u8v++Lib.strCells (Utf8.encode r)))(hg:wr.grownBy w' v.ownBlock):NewB w0 w' v' (acc++encB r):=by
 refine⟨by rw[List.length_append,List.map_append];exact hown,keeps_grown h.2 h.2.size h.1 hg⟩
theorem NewB.conv {w0 wr:World}{A:Option Addr}{cp:Nat}{bs:List UInt8}{s t e:TypeId}{P:Program}(hs:P.underlying s=some (.slice e))(he:P.underlying e=some (.int .u8))(hd:P.underlying t=some .string)
  (h:NewB w0 wr (.slice A bs.length cp) bs):(convert s t (.slice A bs.length cp)).run P wr= .ok (.string ⟨bs.toArray⟩) wr:=by
 cases bs with
 |nil=>
  rw[run_convert_bytes_string wr s t e A _ cp hs he hd]
  cases A<;>rfl
 |cons b bs=>
  obtain⟨g,c,hg⟩:=ownB_pos h.1 (by simp)
  injection hg with h1 h2 h3
  subst h1 h3;refine run_convert_bytes_back wr s t e ⟨g,0,none⟩ cp (b::bs) hs he hd fun j hj=>?_;refine own_news h.1 j _ ?_;rw[List.getElem?_map,List.getElem?_eq_getElem hj];rfl
theorem Tryz.infoU8:(Tryz.prog.info? 5).map (fun i=>(i.zero,i.size,i.bytes))=some (some (.int .u8 0),1,1):=by kernel_rfl
set_option maxRecDepth 100000 in
set_option maxHeartbeats 2000000 in
theorem utf_text (rs:List Int)(hl:rs.length≤17592186044416)(A:Option Addr)(cp:Nat)(w:World)(K:Nat→Prop)(hK:∀b,K b→b<w.heap.size)(hS:SlAt w K 1 (.slice A rs.length cp) rs.length (rs.map (Value.int .i32))):
  Calls Tryz.prog 100 #[.slice A rs.length cp] w fun e w'=>e= .returned (.string (textS rs))∧Keeps (· <w.heap.size) w w':=by
 have HS:=hid hS;clear hS;refine calls_hide fun R' hR'=>?_
 go_enter Tryz.func100,Tryz.ntmps100
 go_wp2_with fail
 go_loopw[3,8] (fun ov iv wr=>∃(i:Nat) (A':Option Addr) (cp':Nat),ov= .slice A' (textB (rs.take i)).length cp'∧iv=I (i:Int)∧i≤rs.length∧Hid (NewB w wr (.slice A' (textB (rs.take i)).length cp') (textB (rs.take i)))) (fun _ iv _=>rs.length-(intOf iv).toNat)
 case atStart=>exact⟨0,none,0,rfl,rfl,Nat.zero_le _,hid ⟨⟨rfl,Or.inl ⟨rfl,rfl⟩⟩,Keeps.refl _ _⟩⟩
 case round=>
  obtain⟨i,A',cp',rfl,rfl,hi,HR⟩:=hrel
  by_cases hlt:i<rs.length
  ·have hltI:(i:Int)<(rs.length:Int):=by omega
   obtain⟨r,hr⟩:∃r,rs[i]? =some r:=⟨_,List.getElem?_eq_getElem hlt⟩;obtain⟨b,off,c9,hv,hb,hc⟩:=(HS.out.keep HR.out.2 hK).get i r hr;injection hv with hA h2 h3
   subst hA h3;have hBs:=HR.out.2.size;have hbl:=textB_len (rs.take i);have htl:(rs.take i).length≤rs.length:=by rw[List.length_take];omega
   have h4:=encB_four r;have hes:=enc_size r;have htk:textB (rs.take (i+1))=textB (rs.take i)++encB r:=by
    rw[List.take_add_one,hr];exact textB_snoc _ _
   have HTK:=hid htk;clear htk hr;generalize textB (rs.take i)=acc at*;have hc2:=hc;obtain⟨i0,hi,hz0,hz1,hz2⟩:=info_partsF Tryz.infoU8
   go_wp2_with (at_builtin;refine Lib.wpList_append_own_string _ rfl _ _ 186 9 rfl w.heap.size 5 i0 Tryz.underlying186 Tryz.underlying9 hi hz0 hz1 hz2 (.slice A' acc.length cp') acc.length (acc.map u8v) rfl HR.out.1 (Utf8.encode r) rfl ?_ ?_ ?_ ?_)
   all_goals(try(first|(unfold maxLen;omega)|omega))
   intro v' w6 hown hgr _;obtain⟨A3,c3,rfl⟩:=ownB_form hown;have hN:=HR.out.app hown hgr;have HN:=hid hN;clear hN;clear hown hgr hi hz0 hz1 hz2 HR
   go_wp2_with fail
   go_roundw
   case rel=>exact⟨i+1,A3,c3,by rw[HTK.out,List.length_append],by go_num,by omega,by rw[HTK.out,List.length_append];exact HN⟩
   case measure=>exact msA
  ·obtain rfl:i=rs.length:=by omega
   have hcv:=HR.out.conv Tryz.underlying186 Tryz.underlying5 Tryz.underlying9
   rw[List.take_length]at*;have hts:textS rs=⟨(textB rs).toArray⟩:=rfl;rw[←hts]at hcv;clear hts;generalize textS rs=ts at*
   go_wp2_with fail
   exact hR'.out _ _ ⟨rfl,HR.out.2⟩
set_option maxRecDepth 100000 in
set_option maxHeartbeats 1000000 in
theorem ref7_key (f:Int)(t:ByteArray)(hf:0≤f∧f≤255)(ht:t.size≤1000000)(w:World):
  Calls Tryz.prog 88 #[.int .u8 f,.string t] w fun e w'=>e= .returned (.string (keyB f t))∧Keeps (· <w.heap.size) w w':=by
 have e1:((UInt8.ofNat f.toNat).toNat:Int)=f:=by rw[UInt8.toNat_ofNat'];omega
 have hl:=own_lit w w.heap.size 5 5 1 1 [.int .u8 f] rfl rfl (by decide) (Nat.le_refl _)
 have Hl:=hid hl;have E1:=hid e1;clear hl e1;refine calls_hide fun R' hR'=>?_
 go_enter Tryz.func88,Tryz.ntmps88
 obtain⟨i0,hi,hz0,hz1,hz2⟩:=info_partsF Tryz.infoU8
 go_wp2_with (at_builtin;refine Lib.wpList_append_own_string _ rfl _ _ 186 9 rfl w.heap.size 5 i0 Tryz.underlying186 Tryz.underlying9 hi hz0 hz1 hz2 (.slice (some ⟨w.heap.size,0,none⟩) 1 1) 1 [.int .u8 f] rfl Hl.out t rfl ?_ ?_ ?_ ?_)
 all_goals(try(first|(unfold maxLen;omega)|omega|(simp;done)))
 intro v' w6 hown hgr _;obtain⟨A3,c3,rfl⟩:=ownB_form hown;have hbs:(UInt8.ofNat f.toNat::t.data.toList).length=1+t.size:=by
  rw[List.length_cons,Array.length_toList];show t.data.size+1=1+t.data.size
  omega
 have hmp:(UInt8.ofNat f.toNat::t.data.toList).map u8v=[Value.int .u8 f]++Lib.strCells t:=by
  rw[List.map_cons,show u8v (UInt8.ofNat f.toNat)=Value.int .u8 f from by unfold u8v;rw[E1.out]]
  rfl
 have hka:Keeps (· <w.heap.size) w w6:=((Keeps.refl (· <w.heap.size) w).alloc (fun b hb=>hb) _).trans (keeps_append (fun b hb=>by have hb:b<w.heap.size:=hb;have:=World.size_alloc w (.cells #[.int .u8 f] 5);omega) (fun b hb hk=>by have hk:b<w.heap.size:=hk;have hb:some w.heap.size=some b:=hb;injection hb with hb;omega) hgr)
 have hN:NewB w w6 (.slice A3 (UInt8.ofNat f.toNat::t.data.toList).length c3) (UInt8.ofNat f.toNat::t.data.toList):=⟨by rw[hmp,hbs];exact hown,hka⟩
 have hcv:=hN.conv Tryz.underlying186 Tryz.underlying5 Tryz.underlying9
 rw[hbs]at hcv;have hkey:(⟨(UInt8.ofNat f.toNat::t.data.toList).toArray⟩:ByteArray)=keyB f t:=by
  unfold keyB
  apply ByteArray.ext
  rw[ByteArray.data_append]
  apply Array.ext'
  simp
 rw[hkey]at hcv;clear hown hgr hbs hmp hN hkey hi hz0 hz1 hz2;generalize keyB f t=key at*;have Hka:=hid hka;clear hka
 go_wp2_with fail
 exact hR'.out _ _ ⟨rfl,Hka.out⟩
def tfindL (cs:List Int)(b id:Int):Nat→Nat→Int×Bool
 |0,_=>(-1,true)
 |n+1,d=>if(atL cs (b+4*(d:Int)+1)).2=false then(0,false)else if(atL cs (b+4*(d:Int)+1)).1=id then((d:Int),true)else tfindL cs b id n (d+1)
set_option maxRecDepth 100000 in
set_option maxHeartbeats 4000000 in
theorem ref11_find (cs:List Int)(b:Int)(n:Nat)(id:Int)(A:Option Addr)(cp:Nat)(w:World)(K:Nat→Prop)(hb:∀b,K b→b<w.heap.size)(hsl:SlAt w K 1 (.slice A cs.length cp) cs.length (cs.map (Value.int .u32)))(hcn:cs.length≤65536)
  (hbs: -1099511627776≤b∧b≤1099511627776) (hn:n≤65536):
  Calls Tryz.prog 85 #[.slice A cs.length cp,I b,I n,J id] w fun e w'=>e= .returned (.tuple #[I (tfindL cs b id n 0).1,.bool (tfindL cs b id n 0).2])∧Keeps (· <w.heap.size) w w':=by
 have hat:=fun W (h:SlAt W K 1 (.slice A cs.length cp) cs.length (cs.map (Value.int .u32))) x=>ref10_at cs x A cp W K h hcn;obtain⟨b0,b1⟩:=hbs;obtain⟨res,hres⟩:∃r,r=tfindL cs b id n 0:=⟨_,rfl⟩;rw[←hres];have Hat:=hid hat;have Hb:=hid hb;have Hsl:=hid hsl;have Hres:=hid hres;clear hat hb hsl hres;refine calls_hide fun R' hR'=>?_
 go_enter Tryz.func85,Tryz.ntmps85
 go_wp2_with fail
 go_loopw[10] (fun iv wx=>∃(k:Nat),iv=I (k:Int)∧k≤n∧Hid (res=tfindL cs b id (n-k) k)∧w=wx) (fun iv _=>n-(intOf iv).toNat)
 case atStart=>exact⟨0,rfl,Nat.zero_le _,Hres,rfl⟩
 case round=>
  clear Hres;obtain⟨k,rfl,hk,HE,rfl⟩:=hrel
  by_cases hlt:k<n
  ·have hltI:(k:Int)<(n:Int):=by omega
   have hex:=HE.out;rw[show n-k=(n-(k+1))+1 by omega]at hex
   unfold tfindL at hex;have hw1:IntKind.i64.wrap (4*(k:Int))=4*(k:Int):=IntWalk.i64_in _ (by omega)
   have hw2:IntKind.i64.wrap (b+4*(k:Int))=b+4*(k:Int):=IntWalk.i64_in _ (by omega)
   have hw3:IntKind.i64.wrap (b+4*(k:Int)+1)=b+4*(k:Int)+1:=IntWalk.i64_in _ (by omega)
   have h1:=Hat.out w Hsl.out (b+4*(k:Int)+1);generalize atL cs (b+4*(k:Int)+1)=x1 at*;obtain⟨x,ok⟩:=x1;dsimp only at hex h1;clear HE;have Hex:=hid hex;have H1:=hid h1;clear hex h1
   go_wp2_with fail
   refine H1.out.mono ?_;rintro e w3 ⟨rfl,rfl⟩
   cases ok with
   |false=>
    have hr:res=(0,false):=by rw[Hex.out];rfl
    exact c58
   |true=>
    by_cases hx:x=id
    ·have hxb:(x==id)=true:=by simp[hx]
     have hr:res=((k:Int),true):=by rw[Hex.out,if_neg (by decide),if_pos hx]
     clear hx Hex;exact c58
    ·have hxb:(x==id)=false:=by simp[hx]
     have hr:res=tfindL cs b id (n-(k+1)) (k+1):=by rw[Hex.out,if_neg (by decide),if_neg hx]
     clear hx Hex;exact c122
  ·obtain rfl:k=n:=by omega
   have hltI:¬(k:Int)<(k:Int):=by omega
   have hr:res=(-1,true):=by rw[HE.out,Nat.sub_self];rfl
   clear HE;exact c58
end Go.Proofs.YtogdknnkhkjmcaaGreatDoor
