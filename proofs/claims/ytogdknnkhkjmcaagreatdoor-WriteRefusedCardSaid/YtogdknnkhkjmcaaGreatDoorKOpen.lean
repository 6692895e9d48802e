/- Lemmas on the programs that the statement reaches. -/
import Derived.Test.YtogdknnkhkjmcaaGreatDoorKBase
import Derived.Test.YtogdknnkhkjmcaaGreatDoorRows
namespace Go.Proofs.YtogdknnkhkjmcaaGreatDoor
open Go.RowKit
set_option linter.all false
def BlkN (w:World)(b n:Nat):Prop:=∃l,Blk w b l∧l.length=n
theorem BlkN.of6 {w:World}{b:Nat}{v0 v1 v2 v3 v4 v5:Value}(h:Blk w b [v0,v1,v2,v3,v4,v5]):BlkN w b 6:=⟨_,h,rfl⟩
theorem BlkN.set_ne {w:World}{b n:Nat}(h:BlkN w b n){a:Addr}(v:Value)(hb:b≠a.block):BlkN (w.setCell a v) b n:=let ⟨l,h1,h2⟩:=h;⟨l,h1.set_ne v hb,h2⟩
theorem BlkN.set6 {w:World}{b:Nat}(h:BlkN w b 6)(v0 v1 v2 v3 v4 v5:Value):
  Blk ((((((w.setCell ⟨b,0,none⟩ v0).setCell ⟨b,1,none⟩ v1).setCell ⟨b,2,none⟩ v2).setCell ⟨b,3,none⟩ v3).setCell ⟨b,4,none⟩ v4).setCell ⟨b,5,none⟩ v5) b [v0,v1,v2,v3,v4,v5]:=by
 obtain⟨l,h1,h2⟩:=h;exact h1.set6 v0 v1 v2 v3 v4 v5 h2
section
variable {P:Program}{w:World}
theorem run_append_x (t ty e:TypeId)(i:TypeInfo)(z:Value)(size bytes:Nat)(ht:P.underlying t=some (.slice e))(hi:P.info? e=some i)(hz:i.zero=some z)
  (hsize:i.size=size) (hby:i.bytes=bytes) (hzs:z.cells.size=size) (hsz:0<size)
  (v:Value) (n:Nat) (xs:List Value) (hown:w.ownsRow 0 e size v n xs)
  (a:Addr) (m c:Nat) (news:List Value) (hl:news.length=m*size) (hnews:∀j u,news[j]? =some u→w.cell? (a.add j)=some u) (h1:∀u∈news,u.oneCell'=true)
  (h63:n+m≤maxLen) (hbytes:(n+m)*bytes≤140737488355328):
  ∃v' w',(Builtin.append_ #[t,t] ty #[v,.slice (some a) m c]).run P w= .ok v' w'∧w'.ownsRow 0 e size v' (n+m) (xs++news)∧w.grownBy w' v.ownBlock∧
   (v'= .slice none 0 0↔v= .slice none 0 0∧m=0)∧(v'.ownBlock=v.ownBlock∨∃b,v'.ownBlock=some b∧w.heap.size≤b):=by
 obtain⟨v',w',hr,h2,h3,h4⟩:=run_append_own (P:=P) w 0 t ty e i z size bytes ht hi hz hsize hby hzs hsz v n xs hown a m c news hl hnews h1 h63 hbytes (Nat.zero_le _);refine⟨v',w',hr,h2,h3,h4,?_⟩;subst hsize;subst hby;have hsmall:n+m≤9223372036854775807:=by simp only[maxLen]at h63;omega
 rcases hown.2 with⟨rfl,rfl⟩|⟨g,cap,cur,rfl,hbg,hg,hnc,hcm,hcs,htake⟩
 ·by_cases hm:m=0
  ·have:=h4.2 ⟨rfl,hm⟩;subst this;exact Or.inl rfl
  ·have hr':=run_append_nil (P:=P) w t ty e i z ht hi hz a m c news hl hnews (by omega) (by omega) (by simp only[Nat.zero_add]at hbytes;omega)
   rw[hr']at hr;injection hr with e1 e2
   subst e1;exact Or.inr ⟨_,rfl,Nat.le_refl _⟩
 ·by_cases hroom:n+m≤cap
  ·have hfit:n*i.size+news.length≤cur.size:=by rw[hl,hcs,←Nat.add_mul];exact Nat.mul_le_mul_right _ hroom
   have hr':=run_append_room (P:=P) w t ty e i ht hi g n cap cur hg a m c news hl hnews h1 hroom hfit;rw[hr']at hr;injection hr with e1 e2
   subst e1;exact Or.inl rfl
  ·have holds:∀j u,xs[j]? =some u→w.cell? ((⟨g,0,none⟩:Addr).add j)=some u:=hown.cells (g:=g) rfl;have hr':=run_append_grow (P:=P) w t ty e i z ht hi hz ⟨g,0,none⟩ n cap xs hown.1 holds a m c news hl hnews (by omega) (by omega) (growslice_fits (by omega) hbytes)
   rw[hr']at hr;injection hr with e1 e2
   subst e1;exact Or.inr ⟨_,rfl,Nat.le_refl _⟩
theorem wp_append_x {o:Oper}{a:Act}{K:Act→World→Prop}{Q:Exit→Act→World→Prop}(s x:Operand)(t:TypeId)
  (ho:o.op= .call { callee:= .builtin .append,args:=#[s,x],argTypes:=#[t,t] })
  (e:TypeId) (i:TypeInfo) (z:Value) (size bytes:Nat) (ht:P.underlying t=some (.slice e)) (hi:P.info? e=some i) (hz:i.zero=some z)
  (hsize:i.size=size) (hby:i.bytes=bytes) (hzs:z.cells.size=size) (hsz:0<size)
  (v:Value) (n:Nat) (xs:List Value) (hs:a.eval s=v) (hown:w.ownsRow 0 e size v n xs)
  (ad:Addr) (m c:Nat) (news:List Value) (hx:a.eval x= .slice (some ad) m c) (hl:news.length=m*size) (hnews:∀j u,news[j]? =some u→w.cell? (ad.add j)=some u) (h1:∀u∈news,u.oneCell'=true)
  (h63:n+m≤maxLen) (hbytes:(n+m)*bytes≤140737488355328)
  (h:∀v' w',w'.ownsRow 0 e size v' (n+m) (xs++news)→w.grownBy w' v.ownBlock→(v'.ownBlock=v.ownBlock∨∃b,v'.ownBlock=some b∧w.heap.size≤b)→K (a.put o.dst v') w'):o.wp P a w K Q:=by
 obtain⟨v',w',hr,h2,h3,_,h4⟩:=run_append_x (P:=P) (w:=w) t o.type e i z size bytes ht hi hz hsize hby hzs hsz v n xs hown ad m c news hl hnews h1 h63 hbytes;unfold Oper.wp execOp;simp only[ho,resolve,invoke,builtin,Sem.run_bind,Sem.run_pure,Result.andThen_ok,List.map_toArray,List.map_cons,List.map_nil,hs,hx,hr];exact h v' w' h2 h3 h4
theorem wpList_append_x {ops:Array Oper}{rest:List Oper}{o:Oper}{a:Act}{Q:Exit→Act→World→Prop}(hgd:o.guard=none)(s x:Operand)(t:TypeId)
  (ho:o.op= .call { callee:= .builtin .append,args:=#[s,x],argTypes:=#[t,t] })
  (e:TypeId) (i:TypeInfo) (z:Value) (size bytes:Nat) (ht:P.underlying t=some (.slice e)) (hi:P.info? e=some i) (hz:i.zero=some z)
  (hsize:i.size=size) (hby:i.bytes=bytes) (hzs:z.cells.size=size) (hsz:0<size)
  (v:Value) (n:Nat) (xs:List Value) (hs:a.eval s=v) (hown:w.ownsRow 0 e size v n xs)
  (ad:Addr) (m c:Nat) (news:List Value) (hx:a.eval x= .slice (some ad) m c) (hl:news.length=m*size) (hnews:∀j u,news[j]? =some u→w.cell? (ad.add j)=some u) (h1:∀u∈news,u.oneCell'=true)
  (h63:n+m≤maxLen) (hbytes:(n+m)*bytes≤140737488355328)
  (h:∀v' w',w'.ownsRow 0 e size v' (n+m) (xs++news)→w.grownBy w' v.ownBlock→(v'.ownBlock=v.ownBlock∨∃b,v'.ownBlock=some b∧w.heap.size≤b)→wpList P ops Q rest (a.put o.dst v') w'):wpList P ops Q (o::rest) a w:=
 wpList_plain hgd fun _ hK=>wp_append_x s x t ho e i z size bytes ht hi hz hsize hby hzs hsz v n xs hs hown ad m c news hx hl hnews h1 h63 hbytes fun v' w' h2 h3 h4=>hK _ _ (h v' w' h2 h3 h4)
end
def SlAt (w:World)(K:Nat→Prop)(size:Nat)(v:Value)(n:Nat)(xs:List Value):Prop:=
 ∃A cap,v= .slice A n cap∧n≤cap∧cap≤maxLen∧xs.length=n*size∧
  (0<n→∃b off,A=some ⟨b,off,none⟩∧K b∧∀j u,xs[j]? =some u→w.cell? ⟨b,off+j,none⟩=some u)
theorem SlAt.keep {w w':World}{K L:Nat→Prop}{size n:Nat}{v:Value}{xs:List Value}(h:SlAt w K size v n xs)(k:Keeps L w w')(hL:∀b,K b→L b):SlAt w' K size v n xs:=by
 obtain⟨A,cap,h1,h2,h3,h4,h5⟩:=h;refine⟨A,cap,h1,h2,h3,h4,fun hn=>?_⟩;obtain⟨b,off,e,hb,hc⟩:=h5 hn;exact⟨b,off,e,hb,fun j u hu=>(World.cell?_of_block (k.block b (hL b hb))).trans (hc j u hu)⟩
theorem SlAt.mono {w:World}{K L:Nat→Prop}{size n:Nat}{v:Value}{xs:List Value}(h:SlAt w K size v n xs)(hL:∀b,K b→L b):SlAt w L size v n xs:=by
 obtain⟨A,cap,h1,h2,h3,h4,h5⟩:=h;refine⟨A,cap,h1,h2,h3,h4,fun hn=>?_⟩;obtain⟨b,off,e,hb,hc⟩:=h5 hn;exact⟨b,off,e,hL b hb,hc⟩
theorem SlAt.get {w:World}{K:Nat→Prop}{v:Value}{xs:List Int}{k:IntKind}(h:SlAt w K 1 v xs.length (xs.map (Value.int k)))(i:Nat)(x:Int)(hi:xs[i]? =some x):
  ∃b off cap,v= .slice (some ⟨b,off,none⟩) xs.length cap∧K b∧w.cell? ⟨b,off+i,none⟩=some (.int k x):=by
 obtain⟨A,cap,h1,h2,h3,h4,h5⟩:=h;have hlt:=(List.getElem?_eq_some_iff.1 hi).1;obtain⟨b,off,e,hb,hc⟩:=h5 (by omega)
 subst e;exact⟨b,off,cap,h1,hb,hc i _ (by rw[List.getElem?_map,hi];rfl)⟩
theorem SlAt.of_blk {w:World}{K:Nat→Prop}{b:Nat}{xs:List Value}(h:Blk w b xs)(hK:K b)(hn:xs.length≤maxLen):SlAt w K 1 (.slice (some ⟨b,0,none⟩) xs.length xs.length) xs.length xs:=
 ⟨_,_,rfl,Nat.le_refl _,hn,(Nat.mul_one _).symm,fun _=>⟨b,0,rfl,hK,fun j u hu=>by rw[Nat.zero_add,h.cell];exact hu⟩⟩
theorem SlAt.form {w:World}{K:Nat→Prop}{size n:Nat}{v:Value}{xs:List Value}(h:SlAt w K size v n xs):∃A cap,v= .slice A n cap∧n≤cap∧cap≤maxLen:=by
 obtain⟨A,cap,h1,h2,h3,_⟩:=h;exact⟨A,cap,h1,h2,h3⟩
theorem info_partsF {P:Program}{t:TypeId}{z:Value}{a b:Nat}(h:(P.info? t).map (fun i=>(i.zero,i.size,i.bytes))=some (some z,a,b)):∃i,P.info? t=some i∧i.zero=some z∧i.size=a∧i.bytes=b:=by
 obtain⟨i,h1,h2⟩:=Option.map_eq_some_iff.1 h;simp only[Prod.mk.injEq]at h2;exact⟨i,h1,h2.1,h2.2.1,h2.2.2⟩
def NewRow (w0 w:World)(E:TypeId)(f:Int→Value)(v:Value)(xs:List Int):Prop:=w.ownsRow w0.heap.size E 1 v xs.length (xs.map f)∧Keeps (· <w0.heap.size) w0 w
theorem NewRow.empty (w:World)(E T:TypeId)(f:Int→Value)(hT:T=E):NewRow w (w.alloc (.cells #[] T)) E f (.slice (some ⟨w.heap.size,0,none⟩) 0 0) []:=
 ⟨⟨rfl,Or.inr ⟨w.heap.size,0,#[],rfl,Nat.le_refl _,by rw[heap_alloc_new,hT],Nat.le_refl _,Nat.zero_le _,rfl,rfl⟩⟩,(Keeps.refl _ _).alloc (fun b hb=>hb) _⟩
theorem ownB_form {w:World}{B E n sz:Nat}{v:Value}{xs:List Value}(h:w.ownsRow B E sz v n xs):∃A cp,v= .slice A n cp:=by
 rcases h.2 with⟨h1,h2⟩|⟨b,cap,_,h1,_⟩
 ·exact⟨_,_,by rw[h1,h2]⟩
 ·exact⟨_,_,h1⟩
theorem ownB_lt {w:World}{B E n sz:Nat}{v:Value}{xs:List Value}(h:w.ownsRow B E sz v n xs){b:Nat}(hb:v.ownBlock=some b):B≤b∧b<w.heap.size:=by
 rcases h.2 with⟨h1,_⟩|⟨g,cap,cur,h1,h2,h3,_⟩
 ·rw[h1]at hb;cases hb
 ·rw[h1]at hb;have:g=b:=by simpa[Value.ownBlock]using hb
  subst this;exact⟨h2,(Array.getElem?_eq_some_iff.1 h3).1⟩
theorem ownB_keep {w w':World}{B E n sz:Nat}{v:Value}{xs:List Value}{K:Nat→Prop}(h:w.ownsRow B E sz v n xs)(k:Keeps K w w')(hK:∀b,B≤b→b<w.heap.size→v.ownBlock=some b→K b):w'.ownsRow B E sz v n xs:=by
 refine⟨h.1,?_⟩
 rcases h.2 with h1|⟨g,cap,cur,h1,h2,h3,h4⟩
 ·exact Or.inl h1
 ·have hb:v.ownBlock=some g:=by rw[h1];rfl
  exact Or.inr ⟨g,cap,cur,h1,h2,by rw[k.block g (hK g h2 (ownB_lt h hb).2 hb)];exact h3,h4⟩
theorem ownB_slAt {w:World}{B E n:Nat}{v:Value}{xs:List Value}(h:w.ownsRow B E 1 v n xs):SlAt w (fun b=>B≤b∧b<w.heap.size) 1 v n xs:=by
 exact c74
theorem keeps_grown {w0 w w':World}{B:Nat}{v:Value}{E n sz:Nat}{xs:List Value}(hk:Keeps (· <B) w0 w)(hB:B≤w.heap.size)(h:w.ownsRow B E sz v n xs)(hg:w.grownBy w' v.ownBlock):Keeps (· <B) w0 w':=
 hk.trans ⟨hg.os,hg.tape,hg.output,hg.size,fun b hb=>hg.block b (by omega) (fun e=>by have:=(ownB_lt h e.symm).1;omega)⟩
theorem NewRow.push {w0 wr w':World}{E T:TypeId}{f:Int→Value}{v v':Value}{acc:List Int}{x:Int}(h:NewRow w0 wr E f v acc)(hown:w'.ownsRow w0.heap.size E 1 v' (acc.length+1) (acc.map f++[f x]))(hg:(wr.alloc (.cells #[f x] T)).grownBy w' v.ownBlock):NewRow w0 w' E f v' (acc++[x]):=by
 refine⟨by simpa using hown,?_⟩
 have hB:=h.2.size;exact keeps_grown (h.2.alloc (fun b hb=>by omega) _) (by simp;omega) (h.1.alloc _) hg
theorem own_news {w:World}{B E n:Nat}{g:Nat}{cap:Nat}{xs:List Value}(h:w.ownsRow B E 1 (.slice (some ⟨g,0,none⟩) n cap) n xs):∀j u,xs[j]? =some u→w.cell? ((⟨g,0,none⟩:Addr).add j)=some u:=fun j u hu=>h.cells (g:=g) rfl j u hu
theorem ownB_pos {w:World}{B E n:Nat}{v:Value}{xs:List Value}(h:w.ownsRow B E 1 v n xs)(hn:0<n):∃g cap,v= .slice (some ⟨g,0,none⟩) n cap:=by
 rcases h.2 with⟨_,h2⟩|⟨g,cap,_,h1,_⟩
 ·omega
 ·exact⟨g,cap,h1⟩
structure Two (B:Nat)(w0 w:World)(E1:TypeId)(s1:Nat)(v1:Value)(n1:Nat)(xs1:List Value)(E2:TypeId)(s2:Nat)(v2:Value)(n2:Nat)(xs2:List Value):Prop where
 o1:w.ownsRow B E1 s1 v1 n1 xs1
 o2:w.ownsRow B E2 s2 v2 n2 xs2
 ne:∀y,v1.ownBlock=some y→v2.ownBlock≠some y
 keeps:Keeps (· <B) w0 w
 le:B≤w.heap.size
theorem ownB_keepS {w w':World}{B:Nat}{E:TypeId}{n sz:Nat}{v:Value}{xs:List Value}(h:w.ownsRow B E sz v n xs)(k:Keeps (· <w.heap.size) w w'):w'.ownsRow B E sz v n xs:=ownB_keep h k fun b _ hb _=>hb
theorem own_grown {w w':World}{B:Nat}{E:TypeId}{n sz:Nat}{v:Value}{xs:List Value}{o:Option Nat}(h:w.ownsRow B E sz v n xs)(hg:w.grownBy w' o)(hne:∀y,v.ownBlock=some y→o≠some y):w'.ownsRow B E sz v n xs:=
 ownB_keep (K:=fun b=>b<w.heap.size∧some b≠o) h ⟨hg.os,hg.tape,hg.output,hg.size,fun b hb=>hg.block b hb.1 hb.2⟩ fun b _ hb ho=>⟨hb,fun e=>hne b ho e.symm⟩
theorem own_lit (w:World)(B:Nat)(E T:TypeId)(sz n:Nat)(xs:List Value)(hT:T=E)(hn:xs.length=n*sz)(hm:n≤maxLen)(hB:B≤w.heap.size):(w.alloc (.cells xs.toArray T)).ownsRow B E sz (.slice (some ⟨w.heap.size,0,none⟩) n n) n xs:=
 ⟨hn,Or.inr ⟨w.heap.size,n,xs.toArray,rfl,hB,by rw[heap_alloc_new,hT],Nat.le_refl _,hm,by simpa using hn,by simp[List.take_of_length_le (show xs.length≤n*sz by omega)]⟩⟩
section
variable {B:Nat}{w0 w w2 w':World}{E1 E2:TypeId}{s1 s2 n1 n2 n':Nat}{v1 v2 v':Value}{xs1 xs2 ys:List Value}
theorem Two.swap (h:Two B w0 w E1 s1 v1 n1 xs1 E2 s2 v2 n2 xs2):Two B w0 w E2 s2 v2 n2 xs2 E1 s1 v1 n1 xs1:=⟨h.o2,h.o1,fun y h1 h2=>h.ne y h2 h1,h.keeps,h.le⟩
end
section
variable {B:Nat}{w0 w w2 w':World}{E1 E2:TypeId}{s1 s2 n1 n2 n':Nat}{v1 v2 v':Value}{xs1 xs2 ys:List Value}
theorem Two.calls (h:Two B w0 w E1 s1 v1 n1 xs1 E2 s2 v2 n2 xs2)(k:Keeps (· <w.heap.size) w w2):Two B w0 w2 E1 s1 v1 n1 xs1 E2 s2 v2 n2 xs2:=
 ⟨ownB_keepS h.o1 k,ownB_keepS h.o2 k,h.ne,h.keeps.trans (k.mono fun b hb=>by have:=h.le;omega),Nat.le_trans h.le k.size⟩
end
section
variable {B:Nat}{w0 w w2 w':World}{E1 E2:TypeId}{s1 s2 n1 n2 n':Nat}{v1 v2 v':Value}{xs1 xs2 ys:List Value}
theorem Two.alloc (h:Two B w0 w E1 s1 v1 n1 xs1 E2 s2 v2 n2 xs2)(c:Obj):Two B w0 (w.alloc c) E1 s1 v1 n1 xs1 E2 s2 v2 n2 xs2:=h.calls ((Keeps.refl _ _).alloc (fun b hb=>hb) _)
end
section
variable {B:Nat}{w0 w w2 w':World}{E1 E2:TypeId}{s1 s2 n1 n2 n':Nat}{v1 v2 v':Value}{xs1 xs2 ys:List Value}
theorem Two.app (h:Two B w0 w2 E1 s1 v1 n1 xs1 E2 s2 v2 n2 xs2)(hown:w'.ownsRow B E1 s1 v' n' ys)(hg:w2.grownBy w' v1.ownBlock)(hf:v'.ownBlock=v1.ownBlock∨v'.ownBlock=some w2.heap.size):Two B w0 w' E1 s1 v' n' ys E2 s2 v2 n2 xs2:=by
 refine⟨hown,own_grown h.o2 hg (fun y h1 h2=>h.ne y h2 h1),?_,keeps_grown h.keeps h.le h.o1 hg,Nat.le_trans h.le hg.size⟩;intro y hy
 rcases hf with e|e
 ·exact h.ne y (by rw[←e];exact hy)
 ·intro h2;rw[e]at hy;injection hy with hy
  have:=(ownB_lt h.o2 h2).2
  omega
end
theorem one1 (k:IntKind)(x:Int):∀u∈[Value.int k x],u.oneCell'=true:=by intro u hu;rcases List.mem_singleton.1 hu with rfl;rfl
theorem ownB_slAtS {w:World}{B:Nat}{E:TypeId}{n sz:Nat}{v:Value}{xs:List Value}(h:w.ownsRow B E sz v n xs):SlAt w (fun b=>B≤b∧b<w.heap.size) sz v n xs:=by
 exact c74
theorem own_newsS {w:World}{B E n sz:Nat}{g:Nat}{cap:Nat}{xs:List Value}(h:w.ownsRow B E sz (.slice (some ⟨g,0,none⟩) n cap) n xs):∀j u,xs[j]? =some u→w.cell? ((⟨g,0,none⟩:Addr).add j)=some u:=fun j u hu=>h.cells (g:=g) rfl j u hu
theorem ownB_posS {w:World}{B E n sz:Nat}{v:Value}{xs:List Value}(h:w.ownsRow B E sz v n xs)(hn:0<n):∃g cap,v= .slice (some ⟨g,0,none⟩) n cap:=by
 rcases h.2 with⟨_,h2⟩|⟨g,cap,_,h1,_⟩
 ·omega
 ·exact⟨g,cap,h1⟩
theorem own_slAtL {w:World}{B:Nat}{E:TypeId}{n sz:Nat}{v:Value}{xs:List Value}(h:w.ownsRow B E sz v n xs):SlAt w (fun b=>v.ownBlock=some b) sz v n xs:=by
 have hl:=h.1
 rcases h.2 with⟨h1,h2⟩|⟨b,cap,cur,h1,h0,h3,h4,h5,h6,h7⟩
 ·exact⟨none,0,by rw[h1,h2],by omega,Nat.zero_le _,hl,fun hn=>by omega⟩
 ·refine⟨some ⟨b,0,none⟩,cap,h1,h4,h5,hl,fun hn=>⟨b,0,rfl,by rw[h1];rfl,fun j u hu=>?_⟩⟩
  exact c444
theorem SlAt.of_blkS {w:World}{K:Nat→Prop}{b n sz:Nat}{xs:List Value}(h:Blk w b xs)(hK:K b)(hl:xs.length=n*sz)(hn:n≤maxLen):SlAt w K sz (.slice (some ⟨b,0,none⟩) n n) n xs:=
 ⟨_,_,rfl,Nat.le_refl _,hn,hl,fun _=>⟨b,0,rfl,hK,fun j u hu=>by rw[Nat.zero_add,h.cell];exact hu⟩⟩
theorem SlAt.rec {α:Type}{f:α→List Value}{sz:Nat}{w:World}{K:Nat→Prop}{A:Option Addr}{c:Nat}{xs:List α}(hf:∀x∈xs,(f x).length=sz)(h:SlAt w K sz (.slice A xs.length c) xs.length (xs.flatMap f))(i:Nat)(x:α)(hi:xs[i]? =some x):
  ∃b off,A=some ⟨b,off,none⟩∧K b∧∀j u,(f x)[j]? =some u→w.cell? ⟨b,off+i*sz+j,none⟩=some u:=by
 obtain⟨A',cap,h1,h2,h3,h4,h5⟩:=h;have hlt:=(List.getElem?_eq_some_iff.1 hi).1;obtain⟨b,off,e,hb,hc⟩:=h5 (by omega)
 injection h1 with h1
 subst e;refine⟨b,off,h1,hb,fun j u hu=>?_⟩;have hj:=(List.getElem?_eq_some_iff.1 hu).1;rw[hf x (List.mem_of_getElem? hi)]at hj;have key:∀(ys:List α) (k:Nat),(∀x∈ys,(f x).length=sz)→ys[k]? =some x→(ys.flatMap f)[k*sz+j]? =some u:=by
  intro ys
  induction ys with
  |nil=>intro k _ hk;simp at hk
  |cons y ys ih=>
   intro k hf hk;have hy:=hf y List.mem_cons_self
   cases k with
   |zero=>
    simp only[List.getElem?_cons_zero,Option.some.injEq]at hk;subst hk;rw[List.flatMap_cons,Nat.zero_mul,Nat.zero_add,List.getElem?_append_left (by rw[hy];exact hj)]
    exact hu
   |succ k=>
    rw[List.getElem?_cons_succ]at hk;have e:(k+1)*sz+j=sz+(k*sz+j):=by rw[Nat.succ_mul];omega
    rw[List.flatMap_cons,e,List.getElem?_append_right (by rw[hy];omega),hy,Nat.add_sub_cancel_left]
    exact ih k (fun x hx=>hf x (List.mem_cons_of_mem _ hx)) hk
 rw[Nat.add_assoc];exact hc _ u (key xs i hf hi)
theorem SlAt.capOf {w:World}{K:Nat→Prop}{sz n:Nat}{A:Option Addr}{c:Nat}{xs:List Value}(h:SlAt w K sz (.slice A n c) n xs):n≤c∧c≤maxLen:=by
 obtain⟨A',cap,h1,h2,h3,_⟩:=h;injection h1 with _ _ hc
 subst hc;exact⟨h2,h3⟩
theorem ownB_set {w:World}{B E n sz g cap k:Nat}{xs:List Value}(h:w.ownsRow B E sz (.slice (some ⟨g,0,none⟩) n cap) n xs)(hn:0<n)(hk:k<xs.length)(u:Value):(w.setCell ⟨g,k,none⟩ u).ownsRow B E sz (.slice (some ⟨g,0,none⟩) n cap) n (xs.set k u):=by
 refine⟨by rw[List.length_set];exact h.1,?_⟩
 rcases h.2 with⟨h1,h2⟩|⟨g',c',cur,h1,h2,h3,h4,h5,h6,h7⟩
 ·omega
 ·injection h1 with e1 e2 e3
  injection e1 with e1
  injection e1 with e1
  subst e1 e3;refine Or.inr ⟨g,cap,cur.setIfInBounds k u,rfl,h2,by simp[World.setCell,Array.getElem?_modify,h3],h4,h5,by simpa using h6,?_⟩
  rw[Array.toList_setIfInBounds,List.take_set,h7]
theorem ownB_free {w:World}{B E n sz g cap:Nat}{xs:List Value}(h:w.ownsRow B E sz (.slice (some ⟨g,0,none⟩) n cap) n xs)(hn:0<n)(k:Nat):w.frozen? ⟨g,k,none⟩=false:=by
 rcases h.2 with⟨h1,h2⟩|⟨g',c',cur,h1,h2,h3,h4⟩
 ·omega
 ·injection h1 with e1 e2 e3
  injection e1 with e1
  injection e1 with e1
  subst e1
  simp[World.frozen?,h3]
theorem flat_set {α:Type}{f:α→List Value}{sz:Nat}(hf:∀x,(f x).length=sz):∀(l:List α) (i j:Nat) (a a':α) (u:Value),l[i]? =some a→j<sz→f a'=(f a).set j u→(l.flatMap f).set (i*sz+j) u=(l.set i a').flatMap f
 | [],i,j,a,a',u,h,_,_=>by cases h
 |x::l,0,j,a,a',u,h,hj,he=>by
  injection h with h
  subst h;rw[List.flatMap_cons,Nat.zero_mul,Nat.zero_add,List.set_append_left _ _ (by rw[hf];exact hj),List.set_cons_zero,List.flatMap_cons,he]
 |x::l,i+1,j,a,a',u,h,hj,he=>by
  rw[List.flatMap_cons,List.set_append_right _ _ (by rw[hf,Nat.succ_mul];omega),hf,show(i+1)*sz+j-sz=i*sz+j by rw[Nat.succ_mul];omega,flat_set hf l i j a a' u h hj he,List.set_cons_succ,List.flatMap_cons]
theorem flat_lenS {α:Type}{f:α→List Value}{sz:Nat}(hf:∀x,(f x).length=sz):∀l:List α,(l.flatMap f).length=l.length*sz
 | []=>by simp
 |x::l=>by rw[List.flatMap_cons,List.length_append,hf,flat_lenS hf l,List.length_cons,Nat.succ_mul];omega
theorem flat_getS {α:Type}{f:α→List Value}{sz:Nat}(hf:∀x,(f x).length=sz):∀(l:List α) (i j:Nat) (a:α),l[i]? =some a→j<sz→(l.flatMap f)[i*sz+j]? =(f a)[j]?
 | [],i,j,a,h,_=>by cases h
 |x::l,0,j,a,h,hj=>by
  injection h with h
  subst h;rw[List.flatMap_cons,Nat.zero_mul,Nat.zero_add,List.getElem?_append_left (by rw[hf];exact hj)]
 |x::l,i+1,j,a,h,hj=>by
  rw[List.flatMap_cons,List.getElem?_append_right (by rw[hf,Nat.succ_mul];omega),hf,show(i+1)*sz+j-sz=i*sz+j by rw[Nat.succ_mul];omega,flat_getS hf l i j a h hj]
theorem own_rec {α:Type}{f:α→List Value}{sz:Nat}(hf:∀x,(f x).length=sz){w:World}{B:Nat}{E:TypeId}{A:Option Addr}{cap:Nat}{l:List α}(h:w.ownsRow B E sz (.slice A l.length cap) l.length (l.flatMap f)){i:Nat}{a:α}(hi:l[i]? =some a):
  ∃g,A=some ⟨g,0,none⟩∧∀(j:Nat) (u:Value),j<sz→(f a)[j]? =some u→w.cell? ⟨g,i*sz+j,none⟩=some u:=by
 obtain⟨g,c9,hp⟩:=ownB_posS h (by have:=(List.getElem?_eq_some_iff.1 hi).1;omega)
 injection hp with e1 _ e3
 subst e1 e3;refine⟨g,rfl,fun j u hj hu=>?_⟩;have:=own_newsS h (i*sz+j) u (by rw[flat_getS hf l i j a hi hj];exact hu)
 rwa [Addr.add_lit,Nat.zero_add]at this
theorem own_recSet {α:Type}{f:α→List Value}{sz:Nat}(hf:∀x,(f x).length=sz){w:World}{B E g cap:Nat}{l:List α}(h:w.ownsRow B E sz (.slice (some ⟨g,0,none⟩) l.length cap) l.length (l.flatMap f)){i j:Nat}{a a':α}{u:Value}(hi:l[i]? =some a)(hj:j<sz)(he:f a'=(f a).set j u):
  (w.setCell ⟨g,i*sz+j,none⟩ u).ownsRow B E sz (.slice (some ⟨g,0,none⟩) (l.set i a').length cap) (l.set i a').length ((l.set i a').flatMap f):=by
 have hil:=(List.getElem?_eq_some_iff.1 hi).1;have hlt:i*sz+j<l.length*sz:=by
  have:(i+1)*sz≤l.length*sz:=Nat.mul_le_mul_right _ hil;rw[Nat.succ_mul]at this
  omega
 have:=ownB_set h (by omega) (k:=i*sz+j) (by rw[flat_lenS hf];exact hlt) u
 rw[List.length_set,←flat_set hf l i j a a' u hi hj he];exact this
end Go.Proofs.YtogdknnkhkjmcaaGreatDoor
namespace Go.Proofs.YtogdknnkhkjmcaaGreatDoor
set_option linter.all false
section
variable {P:Program}{S Su:World→Prop}{md:Region.Mode}{Q:Exit→Act→World→Prop}
theorem min_unlisted {n:Nat}{listed:Array Bool}(h:¬∀i,i<n→listed.getD i true=true):∃i,i<n∧listed.getD i true=false∧∀j,j<i→listed.getD j true=true:=by
 have key:∀m,m≤n→(∀i,i<m→listed.getD i true=true)∨∃i,i<n∧listed.getD i true=false∧∀j,j<i→listed.getD j true=true:=by
  intro m
  induction m with
  |zero=>intro _;exact Or.inl fun i hi=>by omega
  |succ m ih=>
   intro hm
   rcases ih (by omega)with h1|h1
   ·cases hb:listed.getD m true
    ·exact Or.inr ⟨m,by omega,hb,h1⟩
    ·refine Or.inl fun i hi=>?_
     by_cases hm:i=m
     ·rw[hm];exact hb
     ·exact h1 i (by omega)
   ·exact Or.inr h1
 rcases key n (Nat.le_refl _)with h1|h1
 ·exact absurd h1 h
 ·exact h1
theorem getD_flip {listed:Array Bool}{i:Nat}(hi:i<listed.size)(h:listed.getD i true=true):listed.getD i false=true:=by
 simp[hi]at h ⊢;exact h
theorem wpAnyH_more {ops:Array Oper}:∀(f:Nat) (listed:Array Bool) (a:Act) (w:World),wpAnyH P md ops Q S f listed a w→wpAnyH P md ops Q S (f+1) listed a w
 |0,_,_,_,h=>⟨fun _=>h.2,fun i hi=>by rw[h.1]at hi;cases hi⟩
 |f+1,_,_,_,h=>⟨h.1,fun i hi=>wpOp_mono (fun a' w' h'=>⟨h'.1,wpAnyH_more f _ a' w' h'.2⟩) (h.2 i hi)⟩
theorem wpAnyH_mores {ops:Array Oper}(f:Nat)(listed:Array Bool)(a:Act)(w:World)(h:wpAnyH P md ops Q S f listed a w):∀k,wpAnyH P md ops Q S (k+f) listed a w
 |0=>by rw[Nat.zero_add];exact h
 |k+1=>by rw[show k+1+f=(k+f)+1 by omega];exact wpAnyH_more _ _ _ _ (wpAnyH_mores f listed a w h k)
def Behind (R:Act→World→Prop)(Q:Exit→Act→World→Prop):Exit→Act→World→Prop
 | .normal,a,w=>R a w
 | .ret,a,w=>Q .ret a w
 | .exit i,a,w=>Q (.exit i) a w
 | .goto i,a,w=>Q (.goto i) a w
 | .panic c,a,w=>Q (.panic c) a w
 | .outgrown,a,w=>Q .outgrown a w
theorem upon_behind {R:Act→World→Prop}{o:Oper}{a:Act}{K:Act→World→Prop}{r:Result Next}(h:o.upon P a K (Behind R Q) r):o.upon P a K Q r:=by
 cases r with
 |ok n w'=>cases n<;>exact h
 |halt x w'=>cases x<;>exact h
theorem wpOp_behind {l:List Oper}{n i:Nat}{R:Act→World→Prop}(hi:i<n)(hg:∀o,l[i]? =some o→∀j b,o.guard=some (j,b)→j<n){K:Act→World→Prop}{a:Act}{w:World}
  (h:wpOp P (l.take n).toArray (Behind R Q) i K a w):wpOp P l.toArray Q i K a w:=by
 have e:(l.take n).toArray[i]? =l.toArray[i]? :=by simp[List.getElem?_take,hi]
 unfold wpOp at*;rw[e]at h
 cases ho:l.toArray[i]? with
 |none=>rw[ho]at h;exact h
 |some o=>
  rw[ho]at h;simp only at h ⊢;have hw:Region.wanted o (yielded (l.take n).toArray a.tmps)=Region.wanted o (yielded l.toArray a.tmps):=by
   unfold Region.wanted
   cases hgd:o.guard with
   |none=>rfl
   |some x=>
    obtain⟨j,b⟩:=x;have hj:=hg o (by simpa using ho) j b hgd
    have e2:(l.take n).toArray[j]? =l.toArray[j]? :=by simp[List.getElem?_take,hj]
    simp only[yielded,e2]
  rw[hw]at h
  split
  ·rename_i hx
   rw[if_pos hx]at h
   rcases h with h|⟨h1,h2⟩
   ·exact Or.inl (upon_behind h)
   ·exact Or.inr ⟨h1,h2⟩
  ·rename_i hx
   rw[if_neg hx]at h;exact h
def headB (md:Region.Mode)(l:List Oper)(n:Nat)(pre:List Nat):Bool:=
 decide (n<l.length)&&Region.chainB md l.toArray n&&
 ((List.range n).all fun i=>pre.contains i||(List.range (n+1)).any fun j=>decide (i<j)&&Region.waitsFor md l.toArray j i)&&
 ((List.range n).all fun i=>match l[i]? with
  |some o=>(o.after.all fun e=> !Region.binds md e||decide (e.on<i))&&(match o.guard with|some (j,_)=>decide (j<n)|none=>true)
  |none=>true)
def preB (md:Region.Mode)(l:List Oper)(n:Nat)(pre:List Nat)(listed:Array Bool):Bool:=
 decide (listed.size=l.length)&&
 ((List.range l.length).all fun j=>match l[j]? with
  |some o=> !listed.getD j false||o.after.all fun e=> !Region.binds md e||listed.getD e.on false
  |none=>true)&&
 ((List.range l.length).all fun t=>decide (t<n)|| !listed.getD t true)&&pre.all fun i=>listed.getD i false
theorem waits_head {l:List Oper}{n:Nat}{pre:List Nat}{listed:Array Bool}(hB:headB md l n pre=true)(inv:HeadInv md l.toArray n listed)(hpre:∀i∈pre,listed.getD i false=true):
  ∀(d i:Nat),n-i=d→i<n→listed.getD i true=false→∀t,n≤t→t∉Region.ready md l.toArray listed:=by
 simp only[headB,Bool.and_eq_true,decide_eq_true_eq]at hB;obtain⟨⟨⟨hn,hc⟩,hs⟩,_⟩:=hB;intro d
 induction d using Nat.strongRecOn with
 |_ d ih=>
  intro i hd hi hun t ht hr;obtain⟨_,ot,hot,hall⟩:=mem_ready.1 hr;have htlt:t<l.toArray.size:=(Array.getElem?_eq_some_iff.1 hot).1
  by_cases htn:t=n
  ·exact c46
  ·have h1:=List.all_eq_true.1 hc t (List.mem_range.2 htlt);simp only[Bool.or_eq_true,decide_eq_true_eq]at h1
   rcases h1 with h1|h1
   ·omega
   ·obtain⟨o',ho',e,he,hb,hon⟩:=Region.waitsFor_spec h1;obtain rfl:o'=ot:=Option.some.inj (ho'.symm.trans hot);have h2:=hall e he hb;rw[hon,getD_both (inv.tail (t-1) (by omega) (by omega))]at h2
    cases h2
theorem head_anyH {l:List Oper}{n:Nat}{pre:List Nat}(hB:headB md l n pre=true)(hSS:∀w,S w→Su w):
  ∀(f:Nat) (L listed:Array Bool) (a:Act) (w:World),HeadInv md l.toArray n listed→(∀i∈pre,listed.getD i false=true)→L.size=n→(∀i,i<n→listed.getD i true=L.getD i true)→
   wpAnyH P md (l.take n).toArray (Behind (wpAnyH P md l.toArray Q Su (l.length-n) (Array.replicate n true++Array.replicate (l.length-n) false)) Q) S f L a w→wpAnyH P md l.toArray Q Su (f+(l.length-n)) listed a w:=by
 have hB':=hB;simp only[headB,Bool.and_eq_true,decide_eq_true_eq]at hB;have zz21:=PLift.up @c215;exact c214
theorem wpAnyH_head {l:List Oper}{a:Act}{w:World}{listed:Array Bool}(n f:Nat)(pre:List Nat)(L:Array Bool)(hB:headB md l n pre=true)(hP:preB md l n pre listed=true)(hL:(decide (L.size=n)&&(List.range n).all fun i=>listed.getD i true==L.getD i true)=true)(hSS:∀w,S w→Su w)
  (h:wpAnyH P md (l.take n).toArray (Behind (wpAnyH P md l.toArray Q Su (l.length-n) (Array.replicate n true++Array.replicate (l.length-n) false)) Q) S f L a w):wpAnyH P md l.toArray Q Su (f+(l.length-n)) listed a w:=by
 simp only[preB,Bool.and_eq_true,decide_eq_true_eq]at hP;obtain⟨⟨⟨p1,p2⟩,p3⟩,p4⟩:=hP;simp only[Bool.and_eq_true,decide_eq_true_eq]at hL;refine head_anyH hB hSS f L listed a w ⟨by rw[p1];simp,fun j oj hj hl e he hb=>?_,fun t ht ht'=>?_⟩ (fun i hi=>List.all_eq_true.1 p4 i hi) hL.1 (fun i hi=>?_) h
 ·exact c100
 ·exact c135
 ·have h1:=List.all_eq_true.1 hL.2 i (List.mem_range.2 hi)
  simpa using h1
end
end Go.Proofs.YtogdknnkhkjmcaaGreatDoor
namespace Go.Proofs.YtogdknnkhkjmcaaGreatDoor
open Go.RowKit Go.ChangeShapes Go.WideShapes Go.Deep
set_option linter.all false
theorem list_of {α:Type}{Q:Nat→α→Prop}:∀n:Nat,(∀i,i<n→∃x,Q i x)→∃l:List α,l.length=n∧∀i x,l[i]? =some x→Q i x
 |0,_=>⟨[],rfl,fun i x h=>by simp at h⟩
 |n+1,h=>by
  obtain⟨l,h1,h2⟩:=list_of n (fun i hi=>h i (by omega))
  obtain⟨x,hx⟩:=h n (by omega)
  refine⟨l++[x],by simp[h1],fun i y hy=>?_⟩
  rcases Nat.lt_trichotomy i l.length with hi|hi|hi
  ·rw[List.getElem?_append_left hi]at hy;exact h2 i y hy
  ·subst hi;rw[List.getElem?_append_right (Nat.le_refl _)]at hy
   simp at hy;subst hy;rw[h1];exact hx
  ·rw[List.getElem?_append_right (by omega)]at hy
   rw[List.getElem?_eq_none (by simp;omega)]at hy;cases hy
theorem flat_get {α:Type}(f:α→List Value)(size:Nat)(hs:0<size)(hf:∀x,(f x).length=size):∀(l:List α) (j:Nat) (u:Value),(l.flatMap f)[j]? =some u→
  ∃x,l[j/size]? =some x∧(f x)[j%size]? =some u
 | [],j,u,h=>by simp at h
 |x::l,j,u,h=>by
  rw[List.flatMap_cons]at h
  rcases Nat.lt_or_ge j size with hj|hj
  ·rw[List.getElem?_append_left (by rw[hf];exact hj)]at h
   exact⟨x,by rw[Nat.div_eq_of_lt hj];rfl,by rw[Nat.mod_eq_of_lt hj];exact h⟩
  ·rw[List.getElem?_append_right (by rw[hf];exact hj),hf]at h
   obtain⟨y,h1,h2⟩:=flat_get f size hs hf l (j-size) u h;refine⟨y,?_,?_⟩
   ·have e:j/size=(j-size)/size+1:=by rw[Nat.div_eq_sub_div hs hj]
    rw[e];exact h1
   ·rw[Nat.mod_eq_sub_mod hj];exact h2
theorem flat_len {α:Type}(f:α→List Value)(size:Nat)(hf:∀x,(f x).length=size):∀(l:List α),(l.flatMap f).length=l.length*size
 | []=>by simp
 |x::l=>by rw[List.flatMap_cons,List.length_append,hf,flat_len f size hf l,List.length_cons,Nat.succ_mul];omega
set_option maxRecDepth 100000
section
variable {H:Type}{enc:TypeId×Value→H}{w:World}
end
end Go.Proofs.YtogdknnkhkjmcaaGreatDoor
