/- The kit's law of append on an owned row, with one fact more: the row stays in its block, or lies in a new one. -/
import Derived.Test.YtogdknnkhkjmcaaGreatDoorJStepA
namespace Go.Proofs.YtogdknnkhkjmcaaGreatDoor
open Go.RowKit
set_option linter.all false
section
variable {P:Program}{w:World}
theorem run_append_x (t ty e:TypeId)(i:TypeInfo)(z:Value)(size bytes:Nat)(ht:P.underlying t=some (.slice e))(hi:P.info? e=some i)(hz:i.zero=some z)
  (hsize:i.size=size) (hby:i.bytes=bytes) (hzs:z.cells.size=size) (hsz:0<size)
  (v:Value) (n:Nat) (xs:List Value) (hown:w.ownsRow 0 e size v n xs)
  (a:Addr) (m c:Nat) (news:List Value) (hl:news.length=m*size) (hnews:∀j u,news[j]? =some u→w.cell? (a.add j)=some u) (h1:∀u∈news,u.oneCell'=true)
  (h63:n+m≤maxLen) (hbytes:(n+m)*bytes≤140737488355328):
  ∃v' w',(Builtin.append_ #[t,t] ty #[v,.slice (some a) m c]).run P w= .ok v' w'∧w'.ownsRow 0 e size v' (n+m) (xs++news)∧w.grownBy w' v.ownBlock∧
   (v'= .slice none 0 0↔v= .slice none 0 0∧m=0)∧(v'.ownBlock=v.ownBlock∨∃b,v'.ownBlock=some b∧w.heap.size≤b):=by
 obtain⟨v',w',hr,h2,h3,h4⟩:=run_append_own (P:=P) w 0 t ty e i z size bytes ht hi hz hsize hby hzs hsz v n xs hown a m c news hl hnews h1 h63 hbytes (Nat.zero_le _);refine⟨v',w',hr,h2,h3,h4,?_⟩;subst hsize;subst hby;have hsmall:n+m≤9223372036854775807:=by simp only[maxLen]at h63;omega
 rcases hown.2 with⟨rfl,rfl⟩|⟨g,cap,cur,rfl,hbg,hg,hnc,hcm,hcs,htake⟩
 ·by_cases hm:m=0
  ·have:=h4.2 ⟨rfl,hm⟩;subst this;exact Or.inl rfl
  ·have hr':=run_append_nil (P:=P) w t ty e i z ht hi hz a m c news hl hnews (by omega) (by omega) (by simp only[Nat.zero_add]at hbytes;omega)
   rw[hr']at hr;injection hr with e1 e2
   subst e1;exact Or.inr ⟨_,rfl,Nat.le_refl _⟩
 ·by_cases hroom:n+m≤cap
  ·have hfit:n*i.size+news.length≤cur.size:=by rw[hl,hcs,←Nat.add_mul];exact Nat.mul_le_mul_right _ hroom
   have hr':=run_append_room (P:=P) w t ty e i ht hi g n cap cur hg a m c news hl hnews h1 hroom hfit;rw[hr']at hr;injection hr with e1 e2
   subst e1;exact Or.inl rfl
  ·have holds:∀j u,xs[j]? =some u→w.cell? ((⟨g,0,none⟩:Addr).add j)=some u:=hown.cells (g:=g) rfl;have hr':=run_append_grow (P:=P) w t ty e i z ht hi hz ⟨g,0,none⟩ n cap xs hown.1 holds a m c news hl hnews (by omega) (by omega) (growslice_fits (by omega) hbytes)
   rw[hr']at hr;injection hr with e1 e2
   subst e1;exact Or.inr ⟨_,rfl,Nat.le_refl _⟩
theorem wp_append_x {o:Oper}{a:Act}{K:Act→World→Prop}{Q:Exit→Act→World→Prop}(s x:Operand)(t:TypeId)
  (ho:o.op= .call { callee:= .builtin .append,args:=#[s,x],argTypes:=#[t,t] })
  (e:TypeId) (i:TypeInfo) (z:Value) (size bytes:Nat) (ht:P.underlying t=some (.slice e)) (hi:P.info? e=some i) (hz:i.zero=some z)
  (hsize:i.size=size) (hby:i.bytes=bytes) (hzs:z.cells.size=size) (hsz:0<size)
  (v:Value) (n:Nat) (xs:List Value) (hs:a.eval s=v) (hown:w.ownsRow 0 e size v n xs)
  (ad:Addr) (m c:Nat) (news:List Value) (hx:a.eval x= .slice (some ad) m c) (hl:news.length=m*size) (hnews:∀j u,news[j]? =some u→w.cell? (ad.add j)=some u) (h1:∀u∈news,u.oneCell'=true)
  (h63:n+m≤maxLen) (hbytes:(n+m)*bytes≤140737488355328)
  (h:∀v' w',w'.ownsRow 0 e size v' (n+m) (xs++news)→w.grownBy w' v.ownBlock→(v'.ownBlock=v.ownBlock∨∃b,v'.ownBlock=some b∧w.heap.size≤b)→K (a.put o.dst v') w'):o.wp P a w K Q:=by
 obtain⟨v',w',hr,h2,h3,_,h4⟩:=run_append_x (P:=P) (w:=w) t o.type e i z size bytes ht hi hz hsize hby hzs hsz v n xs hown ad m c news hl hnews h1 h63 hbytes;unfold Oper.wp execOp;simp only[ho,resolve,invoke,builtin,Sem.run_bind,Sem.run_pure,Result.andThen_ok,List.map_toArray,List.map_cons,List.map_nil,hs,hx,hr];exact h v' w' h2 h3 h4
theorem wpList_append_x {ops:Array Oper}{rest:List Oper}{o:Oper}{a:Act}{Q:Exit→Act→World→Prop}(hgd:o.guard=none)(s x:Operand)(t:TypeId)
  (ho:o.op= .call { callee:= .builtin .append,args:=#[s,x],argTypes:=#[t,t] })
  (e:TypeId) (i:TypeInfo) (z:Value) (size bytes:Nat) (ht:P.underlying t=some (.slice e)) (hi:P.info? e=some i) (hz:i.zero=some z)
  (hsize:i.size=size) (hby:i.bytes=bytes) (hzs:z.cells.size=size) (hsz:0<size)
  (v:Value) (n:Nat) (xs:List Value) (hs:a.eval s=v) (hown:w.ownsRow 0 e size v n xs)
  (ad:Addr) (m c:Nat) (news:List Value) (hx:a.eval x= .slice (some ad) m c) (hl:news.length=m*size) (hnews:∀j u,news[j]? =some u→w.cell? (ad.add j)=some u) (h1:∀u∈news,u.oneCell'=true)
  (h63:n+m≤maxLen) (hbytes:(n+m)*bytes≤140737488355328)
  (h:∀v' w',w'.ownsRow 0 e size v' (n+m) (xs++news)→w.grownBy w' v.ownBlock→(v'.ownBlock=v.ownBlock∨∃b,v'.ownBlock=some b∧w.heap.size≤b)→wpList P ops Q rest (a.put o.dst v') w'):wpList P ops Q (o::rest) a w:=
 wpList_plain hgd fun _ hK=>wp_append_x s x t ho e i z size bytes ht hi hz hsize hby hzs hsz v n xs hs hown ad m c news hx hl hnews h1 h63 hbytes fun v' w' h2 h3 h4=>hK _ _ (h v' w' h2 h3 h4)
end
theorem Tryz.infoU:(Tryz.prog.info? 32).map (fun i=>(i.zero,i.size,i.bytes))=some (some (J 0),1,4):=by kernel_rfl
set_option maxHeartbeats 400000 in
theorem step_made_err {w:World}{r m:Nat}{g:Value}{σ:RunS}(h:RunAt w r m g σ)(hg:∀b,g.ownBlock=some b→b≠r)(v:Int):
  Calls Tryz.prog 72 #[.pointer (some ⟨r,0,none⟩),J v,I 2] w fun e w'=>
   e= .returned (.tuple #[])∧RunAt w' r m g (σ.made v 2)∧Keeps (· ≠r) w w':=by
 have⟨c0,c1,c2,c3,c4,c5,c6,c7,f⟩:=h.facts;have H:=hid h;have HG:=hid hg;clear h hg;refine calls_hide fun R' hR'=>?_
 go_enter Tryz.func72,Tryz.ntmps72
 go_wp2
 go_end0
 refine hR'.out _ _ ⟨rfl,?_,by exact((Keeps.refl _ _).setCell (by simp) _).setCell (by simp) _⟩
 have e:σ.made v 2={ σ with err:=2,off:=true }:=by simp[RunS.made]
 rw[e];exact H.out.next (((Keeps.refl _ _).setCell (by simp) _).setCell (by simp) _) (by simpa using(H.out.obj.set 7 (I 2)).set 5 (.bool true)) HG.out rfl (by simpa using H.out.le) (fun h=>h)
set_option maxHeartbeats 400000 in
theorem step_made_ok {w:World}{r m:Nat}{g:Value}{σ:RunS}(h:RunAt w r m g σ)(hg:∀b,g.ownBlock=some b→b≠r)(v:Int)(hv:U32 v)
  (hlt:σ.log.length<1099511627776) (hmay:σ.may=false):
  Calls Tryz.prog 72 #[.pointer (some ⟨r,0,none⟩),J v,I 0] w fun e w'=>
   e= .returned (.tuple #[])∧(∃g',RunAt w' r m g' (σ.made v 0)∧(∀b,g'.ownBlock=some b→b≠r)∧(g'.ownBlock=g.ownBlock∨∃b,g'.ownBlock=some b∧w.heap.size≤b))∧
   Keeps (fun b=>b<w.heap.size∧b≠r∧some b≠g.ownBlock) w w':=by
 have⟨c0,c1,c2,c3,c4,c5,c6,c7,f⟩:=h.facts;have hown:=h.log;have hle:=h.le;have hr:=h.obj.lt;obtain⟨i0,hi,hz0,hz1,hz2⟩:=info_parts Tryz.infoU;have H:=hid h;have HG:=hid hg;have HM:=hid hmay;clear h hg hmay;refine calls_hide fun R' hR'=>?_
 go_enter Tryz.func72,Tryz.ntmps72
 go_wp2_with (at_builtin;refine wpList_append_x rfl _ _ 47 rfl 32 i0 (J 0) 1 4 Tryz.underlying47 hi hz0 hz1 hz2 rfl (by decide) g σ.log.length (σ.log.map (Value.int .u32)) rfl (hown.alloc _) ⟨w.heap.size,0,none⟩ 1 1 [J v] rfl rfl ?c1 ?c2 ?c3 ?c4 ?_)
 case c1=>exact cell_one_new _ _ _
 case c2=>intro u hu;simp at hu;subst hu;rfl
 case c3=>unfold maxLen;omega
 case c4=>omega
 intro v' w1 hown' hgr hfr;obtain⟨a',cap',hv'⟩:=own_len hown';subst hv';have hb1:Blk w1 r _:=(H.out.obj.alloc (.cells #[J v] 32)).grown hgr (fun e=>HG.out r e.symm rfl);have d1:=hb1.cell 1;have d2:=hb1.cell 2;have fd:=hb1.free;have hsz:=hgr.size;simp only[List.getElem?_cons_zero,List.getElem?_cons_succ]at d1 d2;have HO:=hid hown';have HGR:=hid hgr;have HF:=hid hfr;clear hown' hgr hfr hown hi hz0 hz1 hz2 f
 go_wp2
 go_end0
 have e:σ.made v 0={ σ with log:=σ.log++[v],pos:=σ.pos+1 }:=by simp[RunS.made]
 have hnr:∀b,(Value.slice a' (σ.log.length+1) cap').ownBlock=some b→b≠r:=by
  intro b hb
  rcases HF.out with h1|⟨b',h1,h2⟩
  ·exact HG.out b (h1▸hb)
  ·rw[h1]at hb;injection hb with hb;omega
 refine hR'.out _ _ ⟨rfl,⟨_,?_,hnr,?_⟩,?_⟩
 ·rw[e];refine⟨by simpa using(hb1.set 1 (.slice a' (σ.log.length+1) cap')).set 2 (I ((σ.pos:Int)+1)),?_,by simp;omega,?_,?_⟩
  ·have:=own_of_keep HO.out (((Keeps.refl (· ≠r) w1).setCell (p:=⟨r,1,none⟩) (by simp) (.slice a' (σ.log.length+1) cap')).setCell (p:=⟨r,2,none⟩) (by simp) (I ((σ.pos:Int)+1))) hnr
   simpa using this
  ·have:=HM.out
   simp[this];omega
  ·intro x hx
   rcases List.mem_append.1 hx with hx|hx
   ·exact H.out.range x hx
   ·simp at hx;exact hx▸hv
 ·rcases HF.out with h1|⟨b',h1,h2⟩
  ·exact Or.inl h1
  ·exact Or.inr ⟨b',h1,by omega⟩
 ·have k1:Keeps (fun b=>b<w.heap.size∧b≠r∧some b≠g.ownBlock) w w1:=
   ((Keeps.refl _ w).alloc (fun b hb=>hb.1) _).grown (fun b hb=>by simp;omega) HGR.out (fun k hk hb=>hb.2.2 hk.symm)
  exact(k1.setCell (by simp) _).setCell (by simp) _
theorem RunAt.keep {K:Nat→Prop}{w w':World}{r m:Nat}{g:Value}{σ:RunS}(h:RunAt w r m g σ)(k:Keeps K w w')(hr:K r)
  (hg:∀b,g.ownBlock=some b→K b):RunAt w' r m g σ:=
 ⟨h.obj.keep k hr,own_of_keep h.log k hg,h.le,h.room,h.range⟩
theorem turn2 {σ:RunS}(h:σ.turnK=2):σ.may=true∧σ.turn={ σ with may:=false }∧σ.inn=true∧σ.off=false∧¬σ.pos<σ.log.length:=by
 unfold RunS.turnK at h;unfold RunS.turn
 split at h
 ·cases h
 ·rename_i h1
  rw[if_neg h1]
  split at h
  ·cases h
  ·rename_i h2
   rw[if_neg h2]
   split at h
   ·cases h
   ·rename_i h3
    rw[if_neg h3]
    simp at h1 h3
    exact⟨h3,rfl,h1.1,h1.2,h2⟩
theorem turn1 {σ:RunS}(h:σ.turnK=1):σ.turn={ σ with pos:=σ.pos+1 }∧σ.pos<σ.log.length:=by
 unfold RunS.turnK at h;unfold RunS.turn
 split at h
 ·cases h
 ·rename_i h1
  rw[if_neg h1]
  split at h
  ·rename_i h2;exact⟨by rw[if_pos h2],h2⟩
  ·split at h<;>cases h
theorem turn_cases (σ:RunS):σ.turnK=2∨σ.turnK=1∨σ.turnK=0:=by
 unfold RunS.turnK
 split
 ·simp
 ·split
  ·simp
  ·split<;>simp
theorem keeps_one {K:Nat→Prop}{x:Nat}{w w':World}(h:Keeps (· ≠x) w w')(hx:¬K x):Keeps K w w':=
 h.mono fun _ hb e=>hx (e▸hb)
theorem logAt {w:World}{r m:Nat}{g:Value}{σ:RunS}(h:RunAt w r m g σ)(hp:σ.pos<σ.log.length):
  ∃b cap,g= .slice (some ⟨b,0,none⟩) σ.log.length cap∧w.cell? ⟨b,σ.pos,none⟩=some (J (σ.log.getD σ.pos 0)):=by
 rcases own_slice h.log with⟨_,h2,_⟩|⟨b,cap,h1,_,_,h4⟩
 ·omega
 ·refine⟨b,cap,h1,?_⟩;rw[h4 _ hp,List.getElem?_map,List.getElem?_eq_getElem hp,List.getD_eq_getElem?_getD,List.getElem?_eq_getElem hp]
  rfl
set_option maxHeartbeats 400000 in
theorem step_load {w:World}{K:Nat→Prop}{r m c:Nat}{s:St}(h:RM w K r m c s)(a:Int):
  Calls Tryz.prog 70 #[.pointer (some ⟨r,0,none⟩),I a] w fun e w'=>
   e= .returned (J (s.load a).1)∧RM w' K r m c (s.load a).2∧Keeps K w w':=by
 obtain⟨g,hrun,hgb⟩:=h.run;have hgr:∀b,g.ownBlock=some b→b≠r:=fun b hb=>(hgb b hb).1;have H:=hid h;clear h;refine calls_hide fun R' hR'=>?_
 rcases turn_cases s.r with h2|h1|h0
 ·obtain⟨hmay,hturn,_,_,_⟩:=turn2 h2;have HT:=hid hturn;have HMay:=hid hmay;have H2:=hid h2;have HR:=hid hrun;clear hturn hmay hrun
  go_enter Tryz.func70,Tryz.ntmps70
  go_wp2_with fail
  refine(step_turn HR.out hgr).mono ?_;rintro e w1 ⟨rfl,hrun1,hk1⟩;rw[h2];have c0:=hrun1.facts.1;have hm1:MemAt w1 m c s.m:=H.out.mem.keep hk1 (fun e=>H.out.rm e.symm) (fun e=>H.out.rc e.symm);have HR1:=hid hrun1;have HK1:=hid hk1;clear hrun1 hk1 h2
  go_wp2_with fail
  refine(mem_load hm1 a).mono ?_;rintro e w2 ⟨rfl,hm2,hk2⟩;have hrun2:RunAt w2 r m g s.r.turn:=HR1.out.keep hk2 H.out.rm (fun b hb=>(hgb b hb).2.1);have hlen:s.r.turn.log.length<1099511627776:=by
   have:=H.out.run;obtain⟨g2,hg2,_⟩:=this;have:=hg2.room;rw[HMay.out]at this;rw[HT.out];simp at this ⊢;omega
  have hmf:s.r.turn.may=false:=by rw[HT.out]
  have hsz1:=HK1.out.size;have hsz2:=hk2.size;have hval:s.load a=(if s.m.inb a then s.m.at a else 0,⟨s.r.turn.made (if s.m.inb a then s.m.at a else 0) (if s.m.inb a then 0 else 2),s.m.load a⟩):=by
   unfold St.load;rw[if_pos H2.out]
  have HV:=hid hval;have HMF:=hid hmf;have HM2:=hid hm2;have HR2:=hid hrun2;have HK2:=hid hk2;have HLen:=hid hlen;clear hval hmf hm2 hrun2 hk2 hlen hm1
  cases hin:s.m.inb a
  ·have Hin:=hid hin;clear hin
   go_wp2_with fail
   refine(step_made_err HR2.out hgr 0).mono ?_;rintro e w3 ⟨rfl,hrun3,hk3⟩;have HR3:=hid hrun3;have HK3:=hid hk3;clear hrun3 hk3
   go_wp2_with fail
   refine hR'.out _ _ ⟨by rw[HV.out,Hin.out];rfl,?_,?_⟩
   ·rw[HV.out,Hin.out];exact⟨⟨g,HR3.out,hgb⟩,HM2.out.keep HK3.out (fun e=>H.out.rm e.symm) (fun e=>H.out.rc e.symm),H.out.rm,H.out.rc,H.out.kr,H.out.km,H.out.kc,
     fun b hb=>by have:=H.out.lt b hb;have:=HK3.out.size;omega⟩
   ·exact(keeps_one HK1.out H.out.kr).trans ((keeps_one HK2.out H.out.km).trans (keeps_one HK3.out H.out.kr))
  ·have hu:U32 (s.m.at a):=by
    have:0≤a∧a<s.m.cells.length:=by simpa[MemS.inb]using hin
    exact MemS.at_range H.out.mem this.1 this.2
   have Hin:=hid hin;have Hu:=hid hu;clear hin hu
   go_wp2_with fail
   refine(step_made_ok HR2.out hgr _ Hu.out HLen.out HMF.out).mono ?_;rintro e w3 ⟨rfl,hrun3,hk3⟩;have HR3:=hid hrun3;have HK3:=hid hk3;clear hrun3 hk3
   go_wp2_with fail
   refine hR'.out _ _ ⟨by rw[HV.out,Hin.out];rfl,?_,?_⟩
   ·rw[HV.out,Hin.out];obtain⟨g',hg1,hg2,hg3⟩:=HR3.out;have hmb:=HM2.out;refine⟨⟨g',hg1,fun b hb=>?_⟩,hmb.keep HK3.out ⟨hmb.obj.lt,fun e=>H.out.rm e.symm,?_⟩ ⟨hmb.cells.lt,fun e=>H.out.rc e.symm,?_⟩,H.out.rm,H.out.rc,H.out.kr,H.out.km,H.out.kc,
     fun b hb=>by have:=H.out.lt b hb;have:=HK3.out.size;omega⟩
    ·rcases hg3 with e|⟨b',e,hb'⟩
     ·exact hgb b (e▸hb)
     ·rw[e]at hb;injection hb with hb;subst hb
      have h1:=hmb.obj.lt;have h2:=hmb.cells.lt;exact⟨hg2 _ e,by omega,by omega,fun hK=>by have:=H.out.lt _ hK;omega⟩
    ·exact fun e=>(hgb m e.symm).2.1 rfl
    ·exact fun e=>(hgb c e.symm).2.2.1 rfl
   ·refine(keeps_one HK1.out H.out.kr).trans ((keeps_one HK2.out H.out.km).trans (HK3.out.mono fun b hb=>?_));have:=H.out.lt b hb;exact⟨by omega,fun e=>H.out.kr (e▸hb),fun e=>(hgb b e.symm).2.2.2 hb⟩
 ·obtain⟨hturn,hp⟩:=turn1 h1;have HT:=hid hturn;have HR:=hid hrun;have H1:=hid h1;have Hp:=hid hp;clear hturn hrun hp
  go_enter Tryz.func70,Tryz.ntmps70
  go_wp2_with fail
  refine(step_turn HR.out hgr).mono ?_;rintro e w1 ⟨rfl,hrun1,hk1⟩;rw[h1];have c1:=hrun1.facts.2.1;have c2:=hrun1.facts.2.2.1;rw[HT.out]at c2;obtain⟨lb,cap,hgv,hlog⟩:=logAt HR.out Hp.out;have hlog1:w1.cell? ⟨lb,s.r.pos,none⟩=some (J (s.r.log.getD s.r.pos 0)):=by
   rw[←hlog];exact World.cell?_of_block (hk1.block lb (hgr lb (by rw[hgv];rfl)))
  rw[hgv]at c1;have HG:=hid hgv;have hp:=Hp.out;have hl1:s.r.log.length≤1099511627776:=by have:=HR.out.room;split at this<;>omega
  have HR1:=hid hrun1;have HK1:=hid hk1;clear hrun1 hk1 h1 hgv hlog;simp only at c2;generalize hx:s.r.log.getD s.r.pos 0=x at hlog1;have HX:=hid hx;clear hx
  go_wp2_with fail
  go_quiet (fail)
  go_wp2_with fail
  have hval:s.load a=(x,⟨s.r.turn,s.m⟩):=by
   unfold St.load;rw[if_neg (by rw[H1.out];decide),if_pos H1.out,HX.out]
  refine hR'.out _ _ ⟨by rw[hval];rfl,?_,((keeps_one HK1.out H.out.kr).drewN _)⟩
  rw[hval];have hk:Keeps (· ≠r) w (w1.drewN nq):=HK1.out.drewN _;refine⟨⟨g,HR1.out.keep (K:=fun _=>True) ((Keeps.refl _ w1).drewN nq) trivial (fun _ _=>trivial),hgb⟩,H.out.mem.keep hk (fun e=>H.out.rm e.symm) (fun e=>H.out.rc e.symm),H.out.rm,H.out.rc,H.out.kr,H.out.km,H.out.kc,
   fun b hb=>by have:=H.out.lt b hb;have:=hk.size;omega⟩
 ·have HR:=hid hrun;have H0:=hid h0;clear hrun
  go_enter Tryz.func70,Tryz.ntmps70
  go_wp2_with fail
  refine(step_turn HR.out hgr).mono ?_;rintro e w1 ⟨rfl,hrun1,hk1⟩;rw[h0];have HR1:=hid hrun1;have HK1:=hid hk1;clear hrun1 hk1 h0
  go_wp2_with fail
  have hval:s.load a=(0,⟨s.r.turn,s.m⟩):=by
   unfold St.load;rw[if_neg (by rw[H0.out];decide),if_neg (by rw[H0.out];decide)]
  refine hR'.out _ _ ⟨by rw[hval];rfl,?_,keeps_one HK1.out H.out.kr⟩
  exact c115
end Go.Proofs.YtogdknnkhkjmcaaGreatDoor
