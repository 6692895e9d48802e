/- Lemmas on the programs that the statement reaches. -/
import Derived.Test.YtogdknnkhkjmcaaGreatDoorKBase
import Derived.Test.YtogdknnkhkjmcaaGreatDoorRows
namespace Go.Proofs.YtogdknnkhkjmcaaGreatDoor
open Go.RowKit
set_option linter.all false
section
variable {P:Program}{w:World}
theorem run_append_x (t ty e:TypeId)(i:TypeInfo)(z:Value)(size bytes:Nat)(ht:P.underlying t=some (.slice e))(hi:P.info? e=some i)(hz:i.zero=some z)
  (hsize:i.size=size) (hby:i.bytes=bytes) (hzs:z.cells.size=size) (hsz:0<size)
  (v:Value) (n:Nat) (xs:List Value) (hown:w.ownsRow 0 e size v n xs)
  (a:Addr) (m c:Nat) (news:List Value) (hl:news.length=m*size) (hnews:∀j u,news[j]? =some u→w.cell? (a.add j)=some u) (h1:∀u∈news,u.oneCell'=true)
  (h63:n+m≤maxLen) (hbytes:(n+m)*bytes≤140737488355328):
  ∃v' w',(Builtin.append_ #[t,t] ty #[v,.slice (some a) m c]).run P w= .ok v' w'∧w'.ownsRow 0 e size v' (n+m) (xs++news)∧w.grownBy w' v.ownBlock∧
   (v'= .slice none 0 0↔v= .slice none 0 0∧m=0)∧(v'.ownBlock=v.ownBlock∨∃b,v'.ownBlock=some b∧w.heap.size≤b):=by
 obtain⟨v',w',hr,h2,h3,h4⟩:=run_append_own (P:=P) w 0 t ty e i z size bytes ht hi hz hsize hby hzs hsz v n xs hown a m c news hl hnews h1 h63 hbytes (Nat.zero_le _);refine⟨v',w',hr,h2,h3,h4,?_⟩;subst hsize;subst hby;have hsmall:n+m≤9223372036854775807:=by simp only[maxLen]at h63;omega
 rcases hown.2 with⟨rfl,rfl⟩|⟨g,cap,cur,rfl,hbg,hg,hnc,hcm,hcs,htake⟩
 ·by_cases hm:m=0
  ·have:=h4.2 ⟨rfl,hm⟩;subst this;exact Or.inl rfl
  ·have hr':=run_append_nil (P:=P) w t ty e i z ht hi hz a m c news hl hnews (by omega) (by omega) (by simp only[Nat.zero_add]at hbytes;omega)
   rw[hr']at hr;injection hr with e1 e2
   subst e1;exact Or.inr ⟨_,rfl,Nat.le_refl _⟩
 ·by_cases hroom:n+m≤cap
  ·have hfit:n*i.size+news.length≤cur.size:=by rw[hl,hcs,←Nat.add_mul];exact Nat.mul_le_mul_right _ hroom
   have hr':=run_append_room (P:=P) w t ty e i ht hi g n cap cur hg a m c news hl hnews h1 hroom hfit;rw[hr']at hr;injection hr with e1 e2
   subst e1;exact Or.inl rfl
  ·have holds:∀j u,xs[j]? =some u→w.cell? ((⟨g,0,none⟩:Addr).add j)=some u:=hown.cells (g:=g) rfl;have hr':=run_append_grow (P:=P) w t ty e i z ht hi hz ⟨g,0,none⟩ n cap xs hown.1 holds a m c news hl hnews (by omega) (by omega) (growslice_fits (by omega) hbytes)
   rw[hr']at hr;injection hr with e1 e2
   subst e1;exact Or.inr ⟨_,rfl,Nat.le_refl _⟩
theorem wp_append_x {o:Oper}{a:Act}{K:Act→World→Prop}{Q:Exit→Act→World→Prop}(s x:Operand)(t:TypeId)
  (ho:o.op= .call { callee:= .builtin .append,args:=#[s,x],argTypes:=#[t,t] })
  (e:TypeId) (i:TypeInfo) (z:Value) (size bytes:Nat) (ht:P.underlying t=some (.slice e)) (hi:P.info? e=some i) (hz:i.zero=some z)
  (hsize:i.size=size) (hby:i.bytes=bytes) (hzs:z.cells.size=size) (hsz:0<size)
  (v:Value) (n:Nat) (xs:List Value) (hs:a.eval s=v) (hown:w.ownsRow 0 e size v n xs)
  (ad:Addr) (m c:Nat) (news:List Value) (hx:a.eval x= .slice (some ad) m c) (hl:news.length=m*size) (hnews:∀j u,news[j]? =some u→w.cell? (ad.add j)=some u) (h1:∀u∈news,u.oneCell'=true)
  (h63:n+m≤maxLen) (hbytes:(n+m)*bytes≤140737488355328)
  (h:∀v' w',w'.ownsRow 0 e size v' (n+m) (xs++news)→w.grownBy w' v.ownBlock→(v'.ownBlock=v.ownBlock∨∃b,v'.ownBlock=some b∧w.heap.size≤b)→K (a.put o.dst v') w'):o.wp P a w K Q:=by
 obtain⟨v',w',hr,h2,h3,_,h4⟩:=run_append_x (P:=P) (w:=w) t o.type e i z size bytes ht hi hz hsize hby hzs hsz v n xs hown ad m c news hl hnews h1 h63 hbytes;unfold Oper.wp execOp;simp only[ho,resolve,invoke,builtin,Sem.run_bind,Sem.run_pure,Result.andThen_ok,List.map_toArray,List.map_cons,List.map_nil,hs,hx,hr];exact h v' w' h2 h3 h4
theorem wpList_append_x {ops:Array Oper}{rest:List Oper}{o:Oper}{a:Act}{Q:Exit→Act→World→Prop}(hgd:o.guard=none)(s x:Operand)(t:TypeId)
  (ho:o.op= .call { callee:= .builtin .append,args:=#[s,x],argTypes:=#[t,t] })
  (e:TypeId) (i:TypeInfo) (z:Value) (size bytes:Nat) (ht:P.underlying t=some (.slice e)) (hi:P.info? e=some i) (hz:i.zero=some z)
  (hsize:i.size=size) (hby:i.bytes=bytes) (hzs:z.cells.size=size) (hsz:0<size)
  (v:Value) (n:Nat) (xs:List Value) (hs:a.eval s=v) (hown:w.ownsRow 0 e size v n xs)
  (ad:Addr) (m c:Nat) (news:List Value) (hx:a.eval x= .slice (some ad) m c) (hl:news.length=m*size) (hnews:∀j u,news[j]? =some u→w.cell? (ad.add j)=some u) (h1:∀u∈news,u.oneCell'=true)
  (h63:n+m≤maxLen) (hbytes:(n+m)*bytes≤140737488355328)
  (h:∀v' w',w'.ownsRow 0 e size v' (n+m) (xs++news)→w.grownBy w' v.ownBlock→(v'.ownBlock=v.ownBlock∨∃b,v'.ownBlock=some b∧w.heap.size≤b)→wpList P ops Q rest (a.put o.dst v') w'):wpList P ops Q (o::rest) a w:=
 wpList_plain hgd fun _ hK=>wp_append_x s x t ho e i z size bytes ht hi hz hsize hby hzs hsz v n xs hs hown ad m c news hx hl hnews h1 h63 hbytes fun v' w' h2 h3 h4=>hK _ _ (h v' w' h2 h3 h4)
end
def SlAt (w:World)(K:Nat→Prop)(size:Nat)(v:Value)(n:Nat)(xs:List Value):Prop:=
 ∃A cap,v= .slice A n cap∧n≤cap∧cap≤maxLen∧xs.length=n*size∧
  (0<n→∃b off,A=some ⟨b,off,none⟩∧K b∧∀j u,xs[j]? =some u→w.cell? ⟨b,off+j,none⟩=some u)
theorem SlAt.keep {w w':World}{K L:Nat→Prop}{size n:Nat}{v:Value}{xs:List Value}(h:SlAt w K size v n xs)(k:Keeps L w w')(hL:∀b,K b→L b):SlAt w' K size v n xs:=by
 obtain⟨A,cap,h1,h2,h3,h4,h5⟩:=h;refine⟨A,cap,h1,h2,h3,h4,fun hn=>?_⟩;obtain⟨b,off,e,hb,hc⟩:=h5 hn;exact⟨b,off,e,hb,fun j u hu=>(World.cell?_of_block (k.block b (hL b hb))).trans (hc j u hu)⟩
theorem SlAt.mono {w:World}{K L:Nat→Prop}{size n:Nat}{v:Value}{xs:List Value}(h:SlAt w K size v n xs)(hL:∀b,K b→L b):SlAt w L size v n xs:=by
 obtain⟨A,cap,h1,h2,h3,h4,h5⟩:=h;refine⟨A,cap,h1,h2,h3,h4,fun hn=>?_⟩;obtain⟨b,off,e,hb,hc⟩:=h5 hn;exact⟨b,off,e,hL b hb,hc⟩
theorem SlAt.get {w:World}{K:Nat→Prop}{v:Value}{xs:List Int}{k:IntKind}(h:SlAt w K 1 v xs.length (xs.map (Value.int k)))(i:Nat)(x:Int)(hi:xs[i]? =some x):
  ∃b off cap,v= .slice (some ⟨b,off,none⟩) xs.length cap∧K b∧w.cell? ⟨b,off+i,none⟩=some (.int k x):=by
 obtain⟨A,cap,h1,h2,h3,h4,h5⟩:=h;have hlt:=(List.getElem?_eq_some_iff.1 hi).1;obtain⟨b,off,e,hb,hc⟩:=h5 (by omega)
 subst e;exact⟨b,off,cap,h1,hb,hc i _ (by rw[List.getElem?_map,hi];rfl)⟩
theorem SlAt.of_blk {w:World}{K:Nat→Prop}{b:Nat}{xs:List Value}(h:Blk w b xs)(hK:K b)(hn:xs.length≤maxLen):SlAt w K 1 (.slice (some ⟨b,0,none⟩) xs.length xs.length) xs.length xs:=
 ⟨_,_,rfl,Nat.le_refl _,hn,(Nat.mul_one _).symm,fun _=>⟨b,0,rfl,hK,fun j u hu=>by rw[Nat.zero_add,h.cell];exact hu⟩⟩
theorem SlAt.form {w:World}{K:Nat→Prop}{size n:Nat}{v:Value}{xs:List Value}(h:SlAt w K size v n xs):∃A cap,v= .slice A n cap∧n≤cap∧cap≤maxLen:=by
 obtain⟨A,cap,h1,h2,h3,_⟩:=h;exact⟨A,cap,h1,h2,h3⟩
theorem info_partsF {P:Program}{t:TypeId}{z:Value}{a b:Nat}(h:(P.info? t).map (fun i=>(i.zero,i.size,i.bytes))=some (some z,a,b)):∃i,P.info? t=some i∧i.zero=some z∧i.size=a∧i.bytes=b:=by
 obtain⟨i,h1,h2⟩:=Option.map_eq_some_iff.1 h;simp only[Prod.mk.injEq]at h2;exact⟨i,h1,h2.1,h2.2.1,h2.2.2⟩
def NewRow (w0 w:World)(E:TypeId)(f:Int→Value)(v:Value)(xs:List Int):Prop:=w.ownsRow w0.heap.size E 1 v xs.length (xs.map f)∧Keeps (· <w0.heap.size) w0 w
theorem NewRow.empty (w:World)(E T:TypeId)(f:Int→Value)(hT:T=E):NewRow w (w.alloc (.cells #[] T)) E f (.slice (some ⟨w.heap.size,0,none⟩) 0 0) []:=
 ⟨⟨rfl,Or.inr ⟨w.heap.size,0,#[],rfl,Nat.le_refl _,by rw[heap_alloc_new,hT],Nat.le_refl _,Nat.zero_le _,rfl,rfl⟩⟩,(Keeps.refl _ _).alloc (fun b hb=>hb) _⟩
theorem ownB_form {w:World}{B E n sz:Nat}{v:Value}{xs:List Value}(h:w.ownsRow B E sz v n xs):∃A cp,v= .slice A n cp:=by
 rcases h.2 with⟨h1,h2⟩|⟨b,cap,_,h1,_⟩
 ·exact⟨_,_,by rw[h1,h2]⟩
 ·exact⟨_,_,h1⟩
theorem ownB_lt {w:World}{B E n sz:Nat}{v:Value}{xs:List Value}(h:w.ownsRow B E sz v n xs){b:Nat}(hb:v.ownBlock=some b):B≤b∧b<w.heap.size:=by
 rcases h.2 with⟨h1,_⟩|⟨g,cap,cur,h1,h2,h3,_⟩
 ·rw[h1]at hb;cases hb
 ·rw[h1]at hb;have:g=b:=by simpa[Value.ownBlock]using hb
  subst this;exact⟨h2,(Array.getElem?_eq_some_iff.1 h3).1⟩
theorem ownB_keep {w w':World}{B E n sz:Nat}{v:Value}{xs:List Value}{K:Nat→Prop}(h:w.ownsRow B E sz v n xs)(k:Keeps K w w')(hK:∀b,B≤b→b<w.heap.size→v.ownBlock=some b→K b):w'.ownsRow B E sz v n xs:=by
 refine⟨h.1,?_⟩
 rcases h.2 with h1|⟨g,cap,cur,h1,h2,h3,h4⟩
 ·exact Or.inl h1
 ·have hb:v.ownBlock=some g:=by rw[h1];rfl
  exact Or.inr ⟨g,cap,cur,h1,h2,by rw[k.block g (hK g h2 (ownB_lt h hb).2 hb)];exact h3,h4⟩
theorem ownB_slAt {w:World}{B E n:Nat}{v:Value}{xs:List Value}(h:w.ownsRow B E 1 v n xs):SlAt w (fun b=>B≤b∧b<w.heap.size) 1 v n xs:=by
 exact c68
theorem keeps_grown {w0 w w':World}{B:Nat}{v:Value}{E n sz:Nat}{xs:List Value}(hk:Keeps (· <B) w0 w)(hB:B≤w.heap.size)(h:w.ownsRow B E sz v n xs)(hg:w.grownBy w' v.ownBlock):Keeps (· <B) w0 w':=
 hk.trans ⟨hg.os,hg.tape,hg.output,hg.size,fun b hb=>hg.block b (by omega) (fun e=>by have:=(ownB_lt h e.symm).1;omega)⟩
theorem NewRow.push {w0 wr w':World}{E T:TypeId}{f:Int→Value}{v v':Value}{acc:List Int}{x:Int}(h:NewRow w0 wr E f v acc)(hown:w'.ownsRow w0.heap.size E 1 v' (acc.length+1) (acc.map f++[f x]))(hg:(wr.alloc (.cells #[f x] T)).grownBy w' v.ownBlock):NewRow w0 w' E f v' (acc++[x]):=by
 refine⟨by simpa using hown,?_⟩
 have hB:=h.2.size;exact keeps_grown (h.2.alloc (fun b hb=>by omega) _) (by simp;omega) (h.1.alloc _) hg
theorem own_news {w:World}{B E n:Nat}{g:Nat}{cap:Nat}{xs:List Value}(h:w.ownsRow B E 1 (.slice (some ⟨g,0,none⟩) n cap) n xs):∀j u,xs[j]? =some u→w.cell? ((⟨g,0,none⟩:Addr).add j)=some u:=fun j u hu=>h.cells (g:=g) rfl j u hu
theorem ownB_pos {w:World}{B E n:Nat}{v:Value}{xs:List Value}(h:w.ownsRow B E 1 v n xs)(hn:0<n):∃g cap,v= .slice (some ⟨g,0,none⟩) n cap:=by
 rcases h.2 with⟨_,h2⟩|⟨g,cap,_,h1,_⟩
 ·omega
 ·exact⟨g,cap,h1⟩
structure Two (B:Nat)(w0 w:World)(E1:TypeId)(s1:Nat)(v1:Value)(n1:Nat)(xs1:List Value)(E2:TypeId)(s2:Nat)(v2:Value)(n2:Nat)(xs2:List Value):Prop where
 o1:w.ownsRow B E1 s1 v1 n1 xs1
 o2:w.ownsRow B E2 s2 v2 n2 xs2
 ne:∀y,v1.ownBlock=some y→v2.ownBlock≠some y
 keeps:Keeps (· <B) w0 w
 le:B≤w.heap.size
theorem ownB_keepS {w w':World}{B:Nat}{E:TypeId}{n sz:Nat}{v:Value}{xs:List Value}(h:w.ownsRow B E sz v n xs)(k:Keeps (· <w.heap.size) w w'):w'.ownsRow B E sz v n xs:=ownB_keep h k fun b _ hb _=>hb
theorem own_grown {w w':World}{B:Nat}{E:TypeId}{n sz:Nat}{v:Value}{xs:List Value}{o:Option Nat}(h:w.ownsRow B E sz v n xs)(hg:w.grownBy w' o)(hne:∀y,v.ownBlock=some y→o≠some y):w'.ownsRow B E sz v n xs:=
 ownB_keep (K:=fun b=>b<w.heap.size∧some b≠o) h ⟨hg.os,hg.tape,hg.output,hg.size,fun b hb=>hg.block b hb.1 hb.2⟩ fun b _ hb ho=>⟨hb,fun e=>hne b ho e.symm⟩
theorem own_lit (w:World)(B:Nat)(E T:TypeId)(sz n:Nat)(xs:List Value)(hT:T=E)(hn:xs.length=n*sz)(hm:n≤maxLen)(hB:B≤w.heap.size):(w.alloc (.cells xs.toArray T)).ownsRow B E sz (.slice (some ⟨w.heap.size,0,none⟩) n n) n xs:=
 ⟨hn,Or.inr ⟨w.heap.size,n,xs.toArray,rfl,hB,by rw[heap_alloc_new,hT],Nat.le_refl _,hm,by simpa using hn,by simp[List.take_of_length_le (show xs.length≤n*sz by omega)]⟩⟩
section
variable {B:Nat}{w0 w w2 w':World}{E1 E2:TypeId}{s1 s2 n1 n2 n':Nat}{v1 v2 v':Value}{xs1 xs2 ys:List Value}
theorem Two.swap (h:Two B w0 w E1 s1 v1 n1 xs1 E2 s2 v2 n2 xs2):Two B w0 w E2 s2 v2 n2 xs2 E1 s1 v1 n1 xs1:=⟨h.o2,h.o1,fun y h1 h2=>h.ne y h2 h1,h.keeps,h.le⟩
end
section
variable {B:Nat}{w0 w w2 w':World}{E1 E2:TypeId}{s1 s2 n1 n2 n':Nat}{v1 v2 v':Value}{xs1 xs2 ys:List Value}
theorem Two.calls (h:Two B w0 w E1 s1 v1 n1 xs1 E2 s2 v2 n2 xs2)(k:Keeps (· <w.heap.size) w w2):Two B w0 w2 E1 s1 v1 n1 xs1 E2 s2 v2 n2 xs2:=
 ⟨ownB_keepS h.o1 k,ownB_keepS h.o2 k,h.ne,h.keeps.trans (k.mono fun b hb=>by have:=h.le;omega),Nat.le_trans h.le k.size⟩
end
section
variable {B:Nat}{w0 w w2 w':World}{E1 E2:TypeId}{s1 s2 n1 n2 n':Nat}{v1 v2 v':Value}{xs1 xs2 ys:List Value}
theorem Two.alloc (h:Two B w0 w E1 s1 v1 n1 xs1 E2 s2 v2 n2 xs2)(c:Obj):Two B w0 (w.alloc c) E1 s1 v1 n1 xs1 E2 s2 v2 n2 xs2:=h.calls ((Keeps.refl _ _).alloc (fun b hb=>hb) _)
end
section
variable {B:Nat}{w0 w w2 w':World}{E1 E2:TypeId}{s1 s2 n1 n2 n':Nat}{v1 v2 v':Value}{xs1 xs2 ys:List Value}
theorem Two.app (h:Two B w0 w2 E1 s1 v1 n1 xs1 E2 s2 v2 n2 xs2)(hown:w'.ownsRow B E1 s1 v' n' ys)(hg:w2.grownBy w' v1.ownBlock)(hf:v'.ownBlock=v1.ownBlock∨v'.ownBlock=some w2.heap.size):Two B w0 w' E1 s1 v' n' ys E2 s2 v2 n2 xs2:=by
 refine⟨hown,own_grown h.o2 hg (fun y h1 h2=>h.ne y h2 h1),?_,keeps_grown h.keeps h.le h.o1 hg,Nat.le_trans h.le hg.size⟩;intro y hy
 rcases hf with e|e
 ·exact h.ne y (by rw[←e];exact hy)
 ·intro h2;rw[e]at hy;injection hy with hy
  have:=(ownB_lt h.o2 h2).2
  omega
end
theorem one1 (k:IntKind)(x:Int):∀u∈[Value.int k x],u.oneCell'=true:=by intro u hu;rcases List.mem_singleton.1 hu with rfl;rfl
theorem ownB_slAtS {w:World}{B:Nat}{E:TypeId}{n sz:Nat}{v:Value}{xs:List Value}(h:w.ownsRow B E sz v n xs):SlAt w (fun b=>B≤b∧b<w.heap.size) sz v n xs:=by
 exact c68
theorem own_newsS {w:World}{B E n sz:Nat}{g:Nat}{cap:Nat}{xs:List Value}(h:w.ownsRow B E sz (.slice (some ⟨g,0,none⟩) n cap) n xs):∀j u,xs[j]? =some u→w.cell? ((⟨g,0,none⟩:Addr).add j)=some u:=fun j u hu=>h.cells (g:=g) rfl j u hu
theorem ownB_posS {w:World}{B E n sz:Nat}{v:Value}{xs:List Value}(h:w.ownsRow B E sz v n xs)(hn:0<n):∃g cap,v= .slice (some ⟨g,0,none⟩) n cap:=by
 rcases h.2 with⟨_,h2⟩|⟨g,cap,_,h1,_⟩
 ·omega
 ·exact⟨g,cap,h1⟩
theorem own_slAtL {w:World}{B:Nat}{E:TypeId}{n sz:Nat}{v:Value}{xs:List Value}(h:w.ownsRow B E sz v n xs):SlAt w (fun b=>v.ownBlock=some b) sz v n xs:=by
 have hl:=h.1
 rcases h.2 with⟨h1,h2⟩|⟨b,cap,cur,h1,h0,h3,h4,h5,h6,h7⟩
 ·exact⟨none,0,by rw[h1,h2],by omega,Nat.zero_le _,hl,fun hn=>by omega⟩
 ·refine⟨some ⟨b,0,none⟩,cap,h1,h4,h5,hl,fun hn=>⟨b,0,rfl,by rw[h1];rfl,fun j u hu=>?_⟩⟩
  exact c430
theorem SlAt.of_blkS {w:World}{K:Nat→Prop}{b n sz:Nat}{xs:List Value}(h:Blk w b xs)(hK:K b)(hl:xs.length=n*sz)(hn:n≤maxLen):SlAt w K sz (.slice (some ⟨b,0,none⟩) n n) n xs:=
 ⟨_,_,rfl,Nat.le_refl _,hn,hl,fun _=>⟨b,0,rfl,hK,fun j u hu=>by rw[Nat.zero_add,h.cell];exact hu⟩⟩
def runesF (s:ByteArray):Nat→Nat→List Int
 |0,_=>[]
 |f+1,p=>if p<s.size then((Utf8.decode s p).1:Int)::runesF s f (p+(Utf8.decode s p).2)else []
def runesS (s:ByteArray):List Int:=runesF s s.size 0
theorem decode_pos (s:ByteArray)(p:Nat):0<(Utf8.decode s p).2:=by
 simp only[Utf8.decode]
 repeat' split
 all_goals simp
theorem runesF_succ (s:ByteArray)(f p:Nat):runesF s (f+1) p=if p<s.size then((Utf8.decode s p).1:Int)::runesF s f (p+(Utf8.decode s p).2)else []:=rfl
theorem runesF_more (s:ByteArray):∀(f p:Nat),s.size≤p+f→runesF s (f+1) p=runesF s f p
 |0,p,h=>by
  rw[runesF_succ,if_neg (by omega)];rfl
 |f+1,p,h=>by
  have hd:=decode_pos s p;rw[runesF_succ s (f+1) p,runesF_succ s f p]
  by_cases hp:p<s.size
  ·rw[if_pos hp,if_pos hp,runesF_more s f _ (by omega)]
  ·rw[if_neg hp,if_neg hp]
theorem runesF_any (s:ByteArray)(f p:Nat)(h:s.size≤p+f):∀g,runesF s (f+g) p=runesF s f p
 |0=>rfl
 |g+1=>by rw[←Nat.add_assoc,runesF_more s (f+g) p (by omega),runesF_any s f p h g]
theorem runesF_next {s:ByteArray}{f p:Nat}(hp:p<s.size)(h:s.size≤p+f):runesF s f p=((Utf8.decode s p).1:Int)::runesF s f (p+(Utf8.decode s p).2):=by
 obtain⟨f,rfl⟩:∃f',f=f'+1:=⟨f-1,by omega⟩
 have hd:=decode_pos s p;rw[runesF_succ,if_pos hp,runesF_any s f _ (by omega) 1]
theorem runesF_end {s:ByteArray}{f p:Nat}(hp:¬p<s.size):runesF s f p=[]:=by
 cases f with
 |zero=>rfl
 |succ f=>rw[runesF_succ,if_neg hp]
theorem decode_four (s:ByteArray)(p:Nat):(Utf8.decode s p).2≤4:=by
 simp only[Utf8.decode]
 repeat' split
 all_goals simp
theorem runesF_len (s:ByteArray):∀f p,(runesF s f p).length≤f
 |0,_=>Nat.le_refl _
 |f+1,p=>by
  unfold runesF
  split
  ·have:=runesF_len s f (p+(Utf8.decode s p).2);simp;omega
  ·simp
structure ItRow (w wr:World)(s:ByteArray)(pos:Nat)(E:TypeId)(f:Int→Value)(v:Value)(acc:List Int):Prop where
 it:wr.heap[w.heap.size]? =some (.stringIter s pos)
 own:wr.ownsRow (w.heap.size+1) E 1 v acc.length (acc.map f)
 keeps:Keeps (· <w.heap.size) w wr
 lt:w.heap.size<wr.heap.size
theorem ItRow.iter {w wr:World}{s:ByteArray}{pos:Nat}{E:TypeId}{f:Int→Value}{v:Value}{acc:List Int}(h:ItRow w wr s pos E f v acc)(pos':Nat):ItRow w (wr.iterAt w.heap.size s pos') s pos' E f v acc:=by
 have k:Keeps (· ≠w.heap.size) wr (wr.iterAt w.heap.size s pos'):=⟨rfl,rfl,rfl,by rw[Lib.iterAt_size];exact Nat.le_refl _,fun b hb=>Lib.iterAt_other wr w.heap.size b s pos' hb⟩
 exact⟨Lib.iterAt_heap wr w.heap.size s pos pos' h.it,ownB_keep h.own k (fun b hB _ _=>by show b≠w.heap.size;omega),h.keeps.trans (k.mono fun b hb=>by show b≠w.heap.size;omega),by rw[Lib.iterAt_size];exact h.lt⟩
theorem ItRow.push {w wr w2 w':World}{s:ByteArray}{pos:Nat}{E:TypeId}{f:Int→Value}{v v':Value}{acc acc':List Int}(h:ItRow w wr s pos E f v acc)(k:Keeps (· <wr.heap.size) wr w2)(hown:w'.ownsRow (w.heap.size+1) E 1 v' acc'.length (acc'.map f))(hg:w2.grownBy w' v.ownBlock):ItRow w w' s pos E f v' acc':=by
 have ho:=ownB_keepS h.own k;have hs:=k.size;have hlt:=h.lt;refine⟨?_,hown,keeps_grown (h.keeps.trans (k.mono fun b hb=>by omega)) (by omega) (B:=w.heap.size) (E:=E) (n:=acc.length) (sz:=1) (xs:=acc.map f) ⟨ho.1,?_⟩ hg,Nat.lt_of_lt_of_le (Nat.lt_of_lt_of_le hlt hs) hg.size⟩
 ·rw[hg.block _ (by omega) (fun e=>by have:=(ownB_lt ho e.symm).1;omega),k.block _ hlt]
  exact h.it
 ·rcases ho.2 with h1|⟨g,c,cur,h1,h2,h3⟩
  ·exact Or.inl h1
  ·exact Or.inr ⟨g,c,cur,h1,by omega,h3⟩
theorem ItRow.new {w wr:World}{s:ByteArray}{pos:Nat}{E:TypeId}{f:Int→Value}{v:Value}{acc:List Int}(h:ItRow w wr s pos E f v acc):NewRow w wr E f v acc:=by
 refine⟨⟨h.own.1,?_⟩,h.keeps⟩
 rcases h.own.2 with h1|⟨g,c,cur,h1,h2,h3⟩
 ·exact Or.inl h1
 ·exact Or.inr ⟨g,c,cur,h1,by omega,h3⟩
theorem Tryz.infoI32:(Tryz.prog.info? 21).map (fun i=>(i.zero,i.size,i.bytes))=some (some (.int .i32 0),1,4):=by kernel_rfl
set_option maxRecDepth 100000 in
set_option maxHeartbeats 1000000 in
theorem utf_runes (s:ByteArray)(hs:s.size≤17592186044416)(w:World):Z 96 #[.string s] w fun e w'=>∃v,e= .returned v∧NewRow w w' 21 (Value.int .i32) v (runesS s):=by
 have h0:ItRow w (w.iter s 0) s 0 21 (Value.int .i32) (.slice none 0 0) []:=⟨World.iter_heap w s 0,⟨rfl,Or.inl ⟨rfl,rfl⟩⟩,(Keeps.refl _ _).alloc (fun b hb=>hb) _,by simp[World.iter]⟩
 have H0:=hid h0;clear h0;refine calls_hide fun R' hR'=>?_
 go_enter Tryz.func96,Tryz.ntmps96
 go_wp2_with fail
 go_loopw[3] (fun ov wr=>∃(pos:Nat) (acc:List Int) (A:Option Addr) (cp:Nat),ov= .slice A acc.length cp∧acc.length≤pos∧pos≤s.size+4∧wr.heap[w.heap.size]? =some (.stringIter s pos)∧Hid (ItRow w wr s pos 21 (Value.int .i32) (.slice A acc.length cp) acc)∧Hid (acc++runesF s s.size pos=runesS s)) (fun _ wr=>s.size+4-wr.iterPos w.heap.size)
 case atStart=>exact⟨0,[],none,0,rfl,Nat.le_refl _,Nat.zero_le _,H0.out.it,H0,hid rfl⟩
 case round=>
  obtain⟨pos,acc,A,cp,rfl,hap,hps,hit,HR,HE⟩:=hrel
  by_cases hp:pos<s.size
  ·have hnx:∀ty,(Instr.next (.pointer (some ⟨w.heap.size,0,none⟩)) true ty).run Tryz.prog wr=_:=fun ty=>Lib.run_next_any_at wr w.heap.size s pos ty hit hp
   have zz42:=PLift.up @c279;exact c278
  ·have hnx:∀ty,(Instr.next (.pointer (some ⟨w.heap.size,0,none⟩)) true ty).run Tryz.prog wr=_:=fun ty=>Lib.run_next_end_at wr w.heap.size s pos ty hit hp
   have hex:=HE.out;rw[runesF_end hp,List.append_nil]at hex;have Hex:=hid hex;clear hex
   go_wp2_with fail
   exact hR'.out _ _ ⟨_,rfl,by have:=HR.out.new;rw[Hex.out]at this;rw[Hex.out];exact this⟩
def encB (r:Int):List UInt8:=(Utf8.encode r).data.toList
def textB (rs:List Int):List UInt8:=rs.flatMap encB
def textS (rs:List Int):ByteArray:=⟨(textB rs).toArray⟩
def u8v (b:UInt8):Value:= .int .u8 (b.toNat:Int)
theorem enc_size (r:Int):(Utf8.encode r).size=(encB r).length:=rfl
theorem encB_four (r:Int):(encB r).length≤4:=by
 unfold encB;simp only[Utf8.encode]
 repeat' split
 all_goals simp
theorem encB_pos (r:Int):0<(encB r).length:=by
 unfold encB;simp only[Utf8.encode]
 repeat' split
 all_goals simp
theorem textB_len (rs:List Int):(textB rs).length≤4*rs.length:=by
 induction rs with
 |nil=>simp[textB]
 |cons r rs ih=>
  have:=encB_four r;simp only[textB,List.flatMap_cons,List.length_append,List.length_cons]at*
  omega
theorem textB_snoc (rs:List Int)(r:Int):textB (rs++[r])=textB rs++encB r:=by simp[textB]
theorem textB_cons (rs:List Int)(r:Int):textB (r::rs)=encB r++textB rs:=by simp[textB]
def NewB (w0 w:World)(v:Value)(bs:List UInt8):Prop:=w.ownsRow w0.heap.size 5 1 v bs.length (bs.map u8v)∧Keeps (· <w0.heap.size) w0 w
theorem NewB.app {w0 wr w':World}{v v':Value}{acc:List UInt8}{r:Int}(h:NewB w0 wr v acc)(hown:w'.ownsRow w0.heap.size 5 1 v' (acc.length+(Utf8.encode r).size) (acc.map u8v++Lib.strCells (Utf8.encode r)))(hg:wr.grownBy w' v.ownBlock):NewB w0 w' v' (acc++encB r):=by
 refine⟨by rw[List.length_append,List.map_append];exact hown,keeps_grown h.2 h.2.size h.1 hg⟩
theorem NewB.conv {w0 wr:World}{A:Option Addr}{cp:Nat}{bs:List UInt8}{s t e:TypeId}{P:Program}(hs:P.underlying s=some (.slice e))(he:P.underlying e=some (.int .u8))(hd:P.underlying t=some .string)
  (h:NewB w0 wr (.slice A bs.length cp) bs):(convert s t (.slice A bs.length cp)).run P wr= .ok (.string ⟨bs.toArray⟩) wr:=by
 cases bs with
 |nil=>
  rw[run_convert_bytes_string wr s t e A _ cp hs he hd]
  cases A<;>rfl
 |cons b bs=>
  obtain⟨g,c,hg⟩:=ownB_pos h.1 (by simp)
  injection hg with h1 h2 h3
  subst h1 h3;refine run_convert_bytes_back wr s t e ⟨g,0,none⟩ cp (b::bs) hs he hd fun j hj=>?_;refine own_news h.1 j _ ?_;rw[List.getElem?_map,List.getElem?_eq_getElem hj];rfl
theorem Tryz.infoU8:(Tryz.prog.info? 5).map (fun i=>(i.zero,i.size,i.bytes))=some (some (.int .u8 0),1,1):=by kernel_rfl
set_option maxRecDepth 100000 in
set_option maxHeartbeats 2000000 in
theorem utf_text (rs:List Int)(hl:rs.length≤17592186044416)(A:Option Addr)(cp:Nat)(w:World)(K:Nat→Prop)(hK:∀b,K b→b<w.heap.size)(hS:SlAt w K 1 (.slice A rs.length cp) rs.length (rs.map (Value.int .i32))):
  Z 100 #[.slice A rs.length cp] w fun e w'=>e= .returned (.string (textS rs))∧Keeps (· <w.heap.size) w w':=by
 have HS:=hid hS;clear hS;refine calls_hide fun R' hR'=>?_
 go_enter Tryz.func100,Tryz.ntmps100
 go_wp2_with fail
 go_loopw[3,8] (fun ov iv wr=>∃(i:Nat) (A':Option Addr) (cp':Nat),ov= .slice A' (textB (rs.take i)).length cp'∧iv=I (i:Int)∧i≤rs.length∧Hid (NewB w wr (.slice A' (textB (rs.take i)).length cp') (textB (rs.take i)))) (fun _ iv _=>rs.length-(intOf iv).toNat)
 case atStart=>exact⟨0,none,0,rfl,rfl,Nat.zero_le _,hid ⟨⟨rfl,Or.inl ⟨rfl,rfl⟩⟩,Keeps.refl _ _⟩⟩
 case round=>
  obtain⟨i,A',cp',rfl,rfl,hi,HR⟩:=hrel
  by_cases hlt:i<rs.length
  ·have hltI:(i:Int)<(rs.length:Int):=by omega
   obtain⟨r,hr⟩:∃r,rs[i]? =some r:=⟨_,List.getElem?_eq_getElem hlt⟩;obtain⟨b,off,c9,hv,hb,hc⟩:=(HS.out.keep HR.out.2 hK).get i r hr;injection hv with hA h2 h3
   subst hA h3;have hBs:=HR.out.2.size;have hbl:=textB_len (rs.take i);have htl:(rs.take i).length≤rs.length:=by rw[List.length_take];omega
   have h4:=encB_four r;have hes:=enc_size r;have htk:textB (rs.take (i+1))=textB (rs.take i)++encB r:=by
    rw[List.take_add_one,hr];exact textB_snoc _ _
   have HTK:=hid htk;clear htk hr;generalize textB (rs.take i)=acc at*;have hc2:=hc;obtain⟨i0,hi,hz0,hz1,hz2⟩:=info_partsF Tryz.infoU8
   go_wp2_with (at_builtin;refine Lib.wpList_append_own_string _ rfl _ _ 186 9 rfl w.heap.size 5 i0 Tryz.underlying186 Tryz.underlying9 hi hz0 hz1 hz2 (.slice A' acc.length cp') acc.length (acc.map u8v) rfl HR.out.1 (Utf8.encode r) rfl ?_ ?_ ?_ ?_)
   all_goals(try(first|(unfold maxLen;omega)|omega))
   intro v' w6 hown hgr _;obtain⟨A3,c3,rfl⟩:=ownB_form hown;have hN:=HR.out.app hown hgr;have HN:=hid hN;clear hN;clear hown hgr hi hz0 hz1 hz2 HR
   go_wp2_with fail
   go_roundw
   case rel=>exact⟨i+1,A3,c3,by rw[HTK.out,List.length_append],by go_num,by omega,by rw[HTK.out,List.length_append];exact HN⟩
   case measure=>exact msA
  ·obtain rfl:i=rs.length:=by omega
   have hcv:=HR.out.conv Tryz.underlying186 Tryz.underlying5 Tryz.underlying9
   rw[List.take_length]at*;have hts:textS rs=⟨(textB rs).toArray⟩:=rfl;rw[←hts]at hcv;clear hts;generalize textS rs=ts at*
   go_wp2_with fail
   exact hR'.out _ _ ⟨rfl,HR.out.2⟩
end Go.Proofs.YtogdknnkhkjmcaaGreatDoor
namespace Go.Proofs.YtogdknnkhkjmcaaGreatDoor
open Go.RowKit Go.ChangeShapes Go.WideShapes Go.Deep
set_option linter.all false
theorem list_of {α:Type}{Q:Nat→α→Prop}:∀n:Nat,(∀i,i<n→∃x,Q i x)→∃l:List α,l.length=n∧∀i x,l[i]? =some x→Q i x
 |0,_=>⟨[],rfl,fun i x h=>by simp at h⟩
 |n+1,h=>by
  obtain⟨l,h1,h2⟩:=list_of n (fun i hi=>h i (by omega))
  obtain⟨x,hx⟩:=h n (by omega)
  refine⟨l++[x],by simp[h1],fun i y hy=>?_⟩
  rcases Nat.lt_trichotomy i l.length with hi|hi|hi
  ·rw[List.getElem?_append_left hi]at hy;exact h2 i y hy
  ·subst hi;rw[List.getElem?_append_right (Nat.le_refl _)]at hy
   simp at hy;subst hy;rw[h1];exact hx
  ·rw[List.getElem?_append_right (by omega)]at hy
   rw[List.getElem?_eq_none (by simp;omega)]at hy;cases hy
theorem flat_get {α:Type}(f:α→List Value)(size:Nat)(hs:0<size)(hf:∀x,(f x).length=size):∀(l:List α) (j:Nat) (u:Value),(l.flatMap f)[j]? =some u→
  ∃x,l[j/size]? =some x∧(f x)[j%size]? =some u
 | [],j,u,h=>by simp at h
 |x::l,j,u,h=>by
  rw[List.flatMap_cons]at h
  rcases Nat.lt_or_ge j size with hj|hj
  ·rw[List.getElem?_append_left (by rw[hf];exact hj)]at h
   exact⟨x,by rw[Nat.div_eq_of_lt hj];rfl,by rw[Nat.mod_eq_of_lt hj];exact h⟩
  ·rw[List.getElem?_append_right (by rw[hf];exact hj),hf]at h
   obtain⟨y,h1,h2⟩:=flat_get f size hs hf l (j-size) u h;refine⟨y,?_,?_⟩
   ·have e:j/size=(j-size)/size+1:=by rw[Nat.div_eq_sub_div hs hj]
    rw[e];exact h1
   ·rw[Nat.mod_eq_sub_mod hj];exact h2
theorem flat_len {α:Type}(f:α→List Value)(size:Nat)(hf:∀x,(f x).length=size):∀(l:List α),(l.flatMap f).length=l.length*size
 | []=>by simp
 |x::l=>by rw[List.flatMap_cons,List.length_append,hf,flat_len f size hf l,List.length_cons,Nat.succ_mul];omega
set_option maxRecDepth 100000
section
variable {H:Type}{enc:TypeId×Value→H}{w:World}
theorem open_sl {α:Type}(f:α→List Value)(size:Nat)(hs:0<size)(hf:∀x,(f x).length=size)(Q:α→Prop){t e:TypeId}{v:Value}{d:DataW H}{p:List MemPlace}
  (ht:Tryz.prog.underlying t=some (.slice e)) (hC:Tryz.prog.cellsOf e=size) {r:Reach} {b0:Nat} (hv:Value.okWide Tryz.prog w r b0 t v)
  (h:DataW.Trod enc Tryz.prog w 0 (fun _=>true) true t v d p)
  (hrd:∀(n:Nat) (cs:List Value) (x:DataW H×List MemPlace),cs.length=size→DataW.trod enc Tryz.prog w 0 (fun _=>true) true n e cs=some x→∃a:α,f a=cs∧Q a):
  ∃(A:Option Addr) (cap:Nat) (l:List α),v= .slice A l.length cap∧(∀a∈l,Q a)∧SlAt w (· <w.heap.size) size v l.length (l.flatMap f):=by
 obtain⟨a0,len,cap,rfl⟩:=okWide_slice ht hv;obtain⟨fuel,hf'⟩:=h
 rcases open_slice ht hf' with⟨h0,_⟩|⟨a,len',cap',m,n,D,Pl,hcs,hb,hl,hm,hmm,hx,hi⟩
 ·simp[Value.cells]at h0
  obtain⟨rfl,rfl,rfl⟩:=h0;exact⟨none,0,[],rfl,fun a ha=>(by cases ha),none,0,rfl,Nat.le_refl _,Nat.zero_le _,by simp,fun hn=>absurd hn (by simp)⟩
 ·simp[Value.cells]at hcs
  obtain⟨rfl,rfl,rfl⟩:=hcs;simp only[if_true]at hmm;subst hmm;obtain⟨l,hl1,hl2⟩:=list_of (Q:=fun i x=>Q x∧∀j u,(f x)[j]? =some u→w.cell? ((a.add (i*size)).add j)=some u) len (fun i hi'=>by
   obtain⟨cs',hc,ht'⟩:=hi i (by omega)
   rw[hC]at hc;obtain⟨_,hcl,hat⟩:=World.cells?_some hc;obtain⟨x,hx1,hx2⟩:=hrd n cs' _ hcl ht';refine⟨x,hx2,fun j u hj=>?_⟩;rw[hx1]at hj;have hjl:j<size:=by rw[←hcl];exact(List.getElem?_eq_some_iff.1 hj).1
   rw[hat j hjl,hj])
  refine⟨some a,m,l,by rw[hl1],fun x hx'=>?_,some a,m,by rw[hl1],by rw[hl1];exact hl,hm,flat_len f size hf l,fun hn=>?_⟩
  ·obtain⟨i,hi',rfl⟩:=List.getElem_of_mem hx';exact(hl2 i _ (List.getElem?_eq_getElem hi')).1
  ·obtain⟨x0,hx0⟩:∃x,l[0]? =some x:=⟨_,List.getElem?_eq_getElem hn⟩;have hsp0:=(hl2 0 x0 hx0).2 0 ((f x0)[0]'(by rw[hf];exact hs)) (List.getElem?_eq_getElem _)
   have hadd:∀(a:Addr) (i j:Nat),(a.add i).add j=a.add (i+j):=fun a i j=>by
    unfold Addr.add
    by_cases hi:i=0<;>by_cases hj:j=0<;>simp[hi,hj,Nat.add_assoc]
   rw[hadd]at hsp0;have hspot:=World.cell?_spot hsp0;obtain⟨b,off,spot⟩:=a;have hspot:spot=none:=by simpa[Addr.add]using hspot
   subst hspot;refine⟨b,off,rfl,?_,fun j u hj=>?_⟩
   ·have:=World.block_lt_of_cell? _ _ hsp0
    simpa[Addr.add]using this
   ·obtain⟨x,hx1,hx2⟩:=flat_get f size hs hf l j u hj;have:=(hl2 _ x hx1).2 _ u hx2;rw[hadd,Nat.div_add_mod' j size]at this;rw[←this]
    simp[Addr.add]
    try(by_cases hj0:j=0<;>simp[hj0])
theorem open_intS (k:IntKind){t e:TypeId}{v:Value}{d:DataW H}{p:List MemPlace}(ht:Tryz.prog.underlying t=some (.slice e))(he:Tryz.prog.underlying e=some (.int k))(hC:Tryz.prog.cellsOf e=1)
  {r:Reach} {b0:Nat} (hv:Value.okWide Tryz.prog w r b0 t v) (h:DataW.Trod enc Tryz.prog w 0 (fun _=>true) true t v d p):
  ∃(A:Option Addr) (cap:Nat) (l:List Int),v= .slice A l.length cap∧(∀a∈l,(Lit.int k a).wf=true)∧SlAt w (· <w.heap.size) 1 v l.length (l.map (Value.int k)):=by
 obtain⟨A,cap,l,h1,h2,h3⟩:=open_sl (fun x:Int=>[Value.int k x]) 1 (by decide) (fun _=>rfl) (fun x=>(Lit.int k x).wf=true) ht hC hv h (fun n cs x hl hx=>by
  obtain⟨a,e1,_,wa⟩:=DataW.trod_int he hx;exact⟨a,e1.symm,wa⟩)
 have e:∀l:List Int,l.flatMap (fun x:Int=>[Value.int k x])=l.map (Value.int k):=by
  intro l;induction l with
  |nil=>rfl
  |cons x l ih=>rw[List.flatMap_cons,ih];rfl
 rw[e]at h3;exact⟨A,cap,l,h1,h2,h3⟩
end
end Go.Proofs.YtogdknnkhkjmcaaGreatDoor
