/- The statement on WriteRefused, and its card: the call returns true and leaves what it was handed as it was. -/
import Derived.Test.YtogdknnkhkjmcaaGreatDoorKOpenC
import Derived.Test.YtogdknnkhkjmcaaGreatDoorKLwO
import Derived.Deep.CutBlock
import Derived.Deep.CutRange
import Derived.Test.YtogdknnkhkjmcaaGreatDoorCards
import Derived.Test.YtogdknnkhkjmcaaGreatDoorTie
import Derived.WalkKit
import Derived.ProofKit
import Derived.OpenShut
import Derived.Deep.DeepHandedRow
import Derived.Lib.LaidTab
namespace Go.Proofs.YtogdknnkhkjmcaaGreatDoor
structure Sd25_10 where
 a : Unit
def d25_10 : Sd25_10 := ⟨()⟩
instance : CoeFun Sd25_10 (fun _ => World → Nat → Value → Value → Value → Value → Value → Value → Value → Value → Value → Value → Prop) := ⟨fun _ w b v0 v1 v2 v3 v4 v5 v6 v7 v8 v9 => w.cell? ⟨b, 25, none⟩ = some v0 ∧ w.cell? ⟨b, 26, none⟩ = some v1 ∧ w.cell? ⟨b, 27, none⟩ = some v2 ∧ w.cell? ⟨b, 28, none⟩ = some v3 ∧ w.cell? ⟨b, 29, none⟩ = some v4 ∧ w.cell? ⟨b, 30, none⟩ = some v5 ∧ w.cell? ⟨b, 31, none⟩ = some v6 ∧ w.cell? ⟨b, 32, none⟩ = some v7 ∧ w.cell? ⟨b, 33, none⟩ = some v8 ∧ w.cell? ⟨b, 34, none⟩ = some v9⟩
structure Se25_10 where
 a : Unit
def e25_10 : Se25_10 := ⟨()⟩
instance : CoeFun Se25_10 (fun _ => World → Nat → Value → Value → Value → Value → Value → Value → Value → Value → Value → Value → Prop → Prop) := ⟨fun _ w b v0 v1 v2 v3 v4 v5 v6 v7 v8 v9 r => w.cell? ⟨b, 25, none⟩ = some v0 ∧ w.cell? ⟨b, 26, none⟩ = some v1 ∧ w.cell? ⟨b, 27, none⟩ = some v2 ∧ w.cell? ⟨b, 28, none⟩ = some v3 ∧ w.cell? ⟨b, 29, none⟩ = some v4 ∧ w.cell? ⟨b, 30, none⟩ = some v5 ∧ w.cell? ⟨b, 31, none⟩ = some v6 ∧ w.cell? ⟨b, 32, none⟩ = some v7 ∧ w.cell? ⟨b, 33, none⟩ = some v8 ∧ w.cell? ⟨b, 34, none⟩ = some v9 ∧ r⟩
end Go.Proofs.YtogdknnkhkjmcaaGreatDoor
namespace Go.Proofs.YtogdknnkhkjmcaaGreatDoor
open Go.RowKit
set_option linter.all false
def Tree.rq {α:Type}(R:α→Prop):Bool→Tree α→Prop
 |st,.ret x=>st=true→¬R x
 |st,.load _ k=>∀v,(k v).rq R st
 |_,.store _ _ k=>k.rq R true
 |st,.off k=>∀b,(k b).rq R st
theorem Tree.rq_mono {α:Type}{R:α→Prop}:∀{t:Tree α} {st:Bool},t.rq R true→t.rq R st
 | .ret _,_,h=>fun _=>h rfl
 | .load _ _,_,h=>fun v=>Tree.rq_mono (h v)
 | .store _ _ _,_,h=>h
 | .off _,_,h=>fun b=>Tree.rq_mono (h b)
theorem Tree.rq_bind {α β:Type}{R:β→Prop}{f:α→Tree β}(g:∀x,(f x).rq R false):∀{t:Tree α} {st:Bool},t.rq (fun _=>True) st→(t.bind f).rq R st
 | .ret x,st,h=>by
  cases st with
  |true=>exact(h rfl trivial).elim
  |false=>exact g x
 | .load _ _,_,h=>fun v=>Tree.rq_bind g (h v)
 | .store _ _ _,_,h=>Tree.rq_bind (st:=true) g h
 | .off _,_,h=>fun b=>Tree.rq_bind g (h b)
theorem Tree.rq_tail {α β:Type}{R:β→Prop}{f:α→Tree β}(g:∀x,(f x).rq R true)(t:Tree α):∀(st:Bool),(t.bind f).rq R st:=by
 induction t with
 |ret x=>exact fun st=>Tree.rq_mono (g x)
 |load a k ih=>exact fun st v=>ih v st
 |store a v k ih=>exact fun st=>ih true
 |off k ih=>exact fun st b=>ih b st
theorem Tree.rq_true {α:Type}{R:α→Prop}(t:Tree α):∀{cs cs':List Int} {x:α} {n:Nat},t.rq R true→t.ideal cs=some (x,cs',n)→¬R x:=by
 induction t with
 |ret y=>intro cs cs' x n h e;injection e with e;injection e with e _;subst e;exact h rfl
 |load a k ih=>
  intro cs cs' x n h e;unfold Tree.ideal at e
  split at e
  ·obtain⟨y,hy,hy2⟩:=Option.map_eq_some_iff.1 e;injection hy2 with h1 _
   subst h1;exact ih _ (h _) hy
  ·cases e
 |store a v k ih=>
  intro cs cs' x n h e;unfold Tree.ideal at e
  split at e
  ·obtain⟨y,hy,hy2⟩:=Option.map_eq_some_iff.1 e;injection hy2 with h1 _
   subst h1;exact ih h hy
  ·cases e
 |off k ih=>exact fun h e=>ih false (h false) e
theorem Tree.rq_wr {α:Type}{R:α→Prop}(t:Tree α):∀{cs cs':List Int} {x:α} {n:Nat},t.rq R false→t.ideal cs=some (x,cs',n)→R x→t.wr cs=0:=by
 induction t with
 |ret y=>intros;rfl
 |load a k ih=>
  intro cs cs' x n h e r;unfold Tree.ideal at e
  split at e
  ·obtain⟨y,hy,hy2⟩:=Option.map_eq_some_iff.1 e;injection hy2 with h1 _
   subst h1;exact ih _ (h _) hy r
  ·cases e
 |store a v k ih=>
  intro cs cs' x n h e r;unfold Tree.ideal at e
  split at e
  ·obtain⟨y,hy,hy2⟩:=Option.map_eq_some_iff.1 e;injection hy2 with h1 _
   subst h1;exact(Tree.rq_true k h hy r).elim
  ·cases e
 |off k ih=>exact fun h e r=>ih false (h false) e r
theorem rq_ret {α:Type}{R:α→Prop}(x:α):(Tree.ret x).rq R false:=fun h=>Bool.noConfusion h
theorem rq_end {α:Type}{R:α→Prop}{st:Bool}(a v:Int)(x:α)(h:¬R x):(Tree.store a v (.ret x)).rq R st:=fun _=>h
theorem findT_rq (b id:Int):∀n d,(findT b id n d).rq (fun _=>True) false
 |0,_=>rq_ret _
 |n+1,d=>by
  unfold findT;intro x;dsimp only;intro o;dsimp only
  split
  ·exact rq_ret _
  ·split
   ·exact rq_ret _
   ·exact findT_rq b id n (d+1)
theorem placeT_rq (id:Int):∀l i,(placeT id l i).rq (fun _=>True) false
 | [],_=>rq_ret _
 |x::l,i=>Tree.rq_bind (fun d=>by
  split
  ·exact rq_ret _
  ·exact placeT_rq id l (i+1)) (findT_rq _ _ _ _)
theorem cmpD_rq (a:Int):∀l k,(cmpD a l k).rq (fun _=>True) false
 | [],_=>rq_ret _
 |c::l,k=>by
  unfold cmpD;intro v;dsimp only
  split
  ·exact rq_ret _
  ·intro o;dsimp only
   split
   ·exact rq_ret _
   ·exact cmpD_rq a l (k+1)
theorem findD_rq (s:Int)(n h:Nat)(cells:List Int)(len:Int):∀f i,(findD s n h cells len f i).rq (fun _=>True) false
 |0,_=>rq_ret _
 |f+1,i=>by
  unfold findD;intro a;dsimp only;intro o;dsimp only
  split
  ·exact rq_ret _
  ·split
   ·exact rq_ret _
   ·intro ln;dsimp only
    split
    ·exact findD_rq s n h cells len f (i+1)
    ·exact Tree.rq_bind (fun ok=>by
      split
      ·exact rq_ret _
      ·exact findD_rq s n h cells len f (i+1)) (cmpD_rq _ _ _)
theorem lookT_rq (s:Int)(n:Nat)(key:ByteArray):(lookT s n key).rq (fun _=>True) false:=
 Tree.rq_bind (fun q=>by
  split
  ·exact rq_ret _
  ·exact fun _=>rq_ret _) (findD_rq _ _ _ _ _ _ _)
theorem termsT_rq (s:Int)(n:Nat):∀l out,(termsT s n l out).rq (fun _=>True) false
 | [],_=>rq_ret _
 |x::l,out=>by
  unfold termsT
  split
  ·exact termsT_rq s n l _
  ·exact Tree.rq_bind (fun t=>termsT_rq s n l _) (lookT_rq _ _ _)
theorem addT_rq (C:ConfM)(W:WrM)(live:SegM)(id:Int)(toks:List TokI):(addT C W live id toks).rq (fun y:WrM×Int=>y.2≠0) false:=by
 unfold addT;refine Tree.rq_bind (fun q=>?_) (placeT_rq _ _ _)
 split
 ·exact rq_ret _
 ·intro o;dsimp only
  split
  ·exact rq_ret _
  ·refine Tree.rq_bind (fun all=>?_) (termsT_rq _ _ _ _);intro o2;dsimp only
   split
   ·exact rq_ret _
   ·split
    ·exact rq_ret _
    ·split
     ·exact rq_ret _
     ·exact Tree.rq_tail (fun y=>Tree.rq_tail (fun _=>rq_end _ _ _ fun h=>h rfl) _ _) _ _
theorem delT_rq (W:WrM)(id:Int):(delT W id).rq (fun y:WrM×Int=>y.2≠0) false:=by
 unfold delT;refine Tree.rq_bind (fun q=>?_) (placeT_rq _ _ _)
 split
 ·exact rq_ret _
 ·split
  ·exact rq_ret _
  ·refine Tree.rq_bind (fun row=>?_) (show(rowT _ _).rq (fun _=>True) false from fun _ _ _ _=>rq_ret _)
   intro o;dsimp only
   split
   ·exact rq_ret _
   ·exact Tree.rq_tail (fun _=>rq_end _ _ _ fun h=>h rfl) _ _
theorem opT_rq (C:ConfM)(W:WrM)(live:SegM)(o:OpM):(opT C W live o).rq (fun y:WrM×Int=>y.2≠0) false:=by
 unfold opT
 split
 ·exact delT_rq W o.id
 ·split
  ·exact rq_ret _
  ·exact addT_rq C W live o.id _
theorem op_refused {C:ConfM}{W:WrM}{live:SegM}{o:OpM}{cs cs':List Int}{W':WrM}{er:Int}{n:Nat}(h:(opT C W live o).ideal cs=some ((W',er),cs',n))(he:er≠0):(opT C W live o).wr cs=0:=
 Tree.rq_wr _ (opT_rq C W live o) h he
end Go.Proofs.YtogdknnkhkjmcaaGreatDoor
namespace Go.Proofs.YtogdknnkhkjmcaaGreatDoor
open Go.RowKit
set_option linter.all false
theorem Wd.stay {w0 w w':World}{K L:Nat→Prop}{X m c:Nat}{C:ConfM}{cs:List Int}{W:WrM}{st:Int}(h:Wd w0 w K X m c C cs W st)(k:Keeps L w w')(hK:∀b,K b→L b)(h1:L X∧L m∧L c)(h0:∀b,b<w0.heap.size→L b):Wd w0 w' K X m c C cs W st:=by
 obtain⟨SA,sc,CA,cc,TA,tc,g1,g2,g3,g4⟩:=h.obj;obtain⟨μ,m1,m2,m3⟩:=h.mem;have hs:=k.size;exact⟨⟨SA,sc,CA,cc,TA,tc,g1.keep k h1.1,g2.keep k hK,g3.keep k hK,g4.keep k hK⟩,⟨μ,m1.keep k h1.2.1 h1.2.2,m2,m3⟩,h.kx,h.km,h.kc,fun b hb=>Nat.lt_of_lt_of_le (h.lt b hb) hs,h.xm,h.xc,h.k0,h.kp.trans (k.mono h0)⟩
structure Two2 (w0 w:World)(X m c Y m' c':Nat)(C:ConfM)(cs:List Int)(W:WrM)(st st':Int)(K L:Nat→Prop):Prop where
 x:Wd w0 w K X m c C cs W st
 y:Wd w0 w L Y m' c' C cs W st'
 kx:¬K Y∧¬K m'∧¬K c'
 ky:¬L X∧¬L m∧¬L c
def Ap (X m c Y m' c':Nat):Prop:=(X<Y∧X<m'∧X<c')∧(m<Y∧m<m'∧m<c')∧(c<Y∧c<m'∧c<c')
section
variable {w0 w w':World}{X m c Y m' c':Nat}{C:ConfM}{cs cs':List Int}{W W':WrM}{st st' s2:Int}{K L:Nat→Prop}
theorem Wd.lts (h:Wd w0 w K X m c C cs W st):X<w.heap.size∧m<w.heap.size∧c<w.heap.size:=by
 obtain⟨_,_,_,_,_,_,g,_⟩:=h.obj;obtain⟨_,g2,_⟩:=h.mem;exact⟨g.lt,g2.obj.lt,g2.cells.lt⟩
theorem Two2.keep (h:Two2 w0 w X m c Y m' c' C cs W st st' K L)(k:Keeps (· <w.heap.size) w w'):Two2 w0 w' X m c Y m' c' C cs W st st' K L:=
 ⟨h.x.stay k h.x.lt h.x.lts fun b hb=>Nat.lt_of_lt_of_le hb h.x.kp.size,h.y.stay k h.y.lt h.y.lts fun b hb=>Nat.lt_of_lt_of_le hb h.x.kp.size,h.kx,h.ky⟩
theorem Two2.left (h:Two2 w0 w X m c Y m' c' C cs W st st' K L)(a:Ap X m c Y m' c')(g:w0.heap.size≤X∧w0.heap.size≤m∧w0.heap.size≤c)(k:Keeps (fun b=>b<w.heap.size∧b≠X∧b≠m∧b≠c) w w')
  (hx:Wd w0 w' (fun b=>K b∨(w.heap.size≤b∧b<w'.heap.size)) X m c C cs' W' s2):Wd w0 w' L Y m' c' C cs W st'∧(¬(fun b=>K b∨(w.heap.size≤b∧b<w'.heap.size)) Y∧¬(fun b=>K b∨(w.heap.size≤b∧b<w'.heap.size)) m'∧¬(fun b=>K b∨(w.heap.size≤b∧b<w'.heap.size)) c'):=by
 obtain⟨⟨a1,a2,a3⟩,⟨a4,a5,a6⟩,a7,a8,a9⟩:=a;obtain⟨l1,l2,l3⟩:=h.y.lts;have hs:=h.x.kp.size;refine⟨h.y.stay k (fun b hb=>⟨h.y.lt b hb,fun e=>h.ky.1 (e▸hb),fun e=>h.ky.2.1 (e▸hb),fun e=>h.ky.2.2 (e▸hb)⟩) ⟨⟨l1,by omega,by omega,by omega⟩,⟨l2,by omega,by omega,by omega⟩,l3,by omega,by omega,by omega⟩ (fun b hb=>⟨by omega,by omega,by omega,by omega⟩),?_,?_,?_⟩
 ·exact fun e=>e.elim h.kx.1 fun e=>by omega
 ·exact fun e=>e.elim h.kx.2.1 fun e=>by omega
 ·exact fun e=>e.elim h.kx.2.2 fun e=>by omega
theorem Two2.right (hx:Wd w0 w K X m c C cs W st)(hkx:¬K Y∧¬K m'∧¬K c')(hky:¬L X∧¬L m∧¬L c)(a:Ap X m c Y m' c')(hs0:w0.heap.size≤Y∧w0.heap.size≤m'∧w0.heap.size≤c')(k:Keeps (fun b=>b<w.heap.size∧b≠Y∧b≠m'∧b≠c') w w')
  (hy:Wd w0 w' (fun b=>L b∨(w.heap.size≤b∧b<w'.heap.size)) Y m' c' C cs W s2):Two2 w0 w' X m c Y m' c' C cs W st s2 K (fun b=>L b∨(w.heap.size≤b∧b<w'.heap.size)):=by
 obtain⟨⟨a1,a2,a3⟩,⟨a4,a5,a6⟩,a7,a8,a9⟩:=a;obtain⟨l1,l2,l3⟩:=hx.lts;have hs:=hx.kp.size;refine⟨hx.stay k (fun b hb=>⟨hx.lt b hb,fun e=>hkx.1 (e▸hb),fun e=>hkx.2.1 (e▸hb),fun e=>hkx.2.2 (e▸hb)⟩) ⟨⟨l1,by omega,by omega,by omega⟩,⟨l2,by omega,by omega,by omega⟩,l3,by omega,by omega,by omega⟩ (fun b hb=>⟨by omega,by omega,by omega,by omega⟩),hy,hkx,?_,?_,?_⟩
 ·exact fun e=>e.elim hky.1 fun e=>by omega
 ·exact fun e=>e.elim hky.2.1 fun e=>by omega
 ·exact fun e=>e.elim hky.2.2 fun e=>by omega
end
set_option maxRecDepth 100000 in
set_option maxHeartbeats 16000000 in
theorem law_refused (C:ConfM)(ops:List OpV)(A:Option Addr)(c:Nat)(w:World)(hT:PTab w)(hF:FoldTab w)(hsl:SlAt w (· <w.heap.size) 3 (.slice A ops.length c) ops.length (ops.flatMap OpV.cells))(ho:∀o∈ops,o.ok w (· <w.heap.size)):
  Z 5 #[.agg C.list.toArray,.slice A ops.length c] w fun e w'=>e= .returned (.bool true)∧Keeps (· <w.heap.size) w w':=by
 have hbeg:=law_begin C w w hT (Keeps.refl _ _);have hfix:=fun W (hk:Keeps (· <w.heap.size) w W)=>law_fixed (w0:=w) (w:=W) hT hF hk;have hlig:=fun W (hk:Keeps (· <w.heap.size) w W)=>law_light ops A c W (· <w.heap.size) (fun b hb=>Nat.lt_of_lt_of_le hb hk.size) (hsl.keep hk fun b hb=>hb) (fun o h=>(ho o h).keep hk fun b hb=>hb);obtain⟨A',cap,e1,e2,e3,e4,e5⟩:=hsl
 injection e1 with e1 _ e1c
 subst e1 e1c;have H5:=hid e5;have HO:=hid ho;have HT:=hid hT;have HF:=hid hF;have HFIX:=hid hfix;have HLIG:=hid hlig;obtain⟨docs,terms,q0,q1,q2,q3,book,room,kk,bb,hcfe⟩:∃docs terms q0 q1 q2 q3 book room kk bb,C=⟨docs,terms,q0,q1,q2,q3,book,room,kk,bb⟩:=⟨_,_,_,_,_,_,_,_,_,_,rfl⟩;have hcli:C.list=[I docs,I terms,I q0,I q1,I q2,I q3,I book,I room,kk,bb]:=by rw[hcfe];rfl
 rw[hcli]at hbeg ⊢;have HBEG:=hid hbeg;clear hT hF ho e3 e4 e5 hfix hlig hbeg hcli hcfe;refine calls_hide fun R' hR'=>?_
 go_enter Tryz.func5,Tryz.ntmps5
 go_wp2_with fail
 refine calls_gen (fun W0=>Keeps (· <w.heap.size) w W0∧Blk W0 w.heap.size [I docs,I terms,I q0,I q1,I q2,I q3,I book,I room,kk,bb]) ⟨(Keeps.refl _ _).alloc (fun b hb=>hb) _,Blk.new _ _ _⟩ (fun w1 hkb=>?_);obtain⟨hk1,hB1⟩:=hkb;have hT1:=HT.out.keep (K:=(· <w.heap.size)) hk1 HT.out.2.2.2.2
 rcases HBEG.out with hno|⟨h1,h2,h3,hgo⟩
 ·refine(hno w1 hk1 hT1).mono ?_;rintro e w2 ⟨rfl,hk2⟩;have hk2w:Keeps (· <w.heap.size) w w2:=hk1.trans (hk2.mono fun b hb=>by have:=hk1.size;omega)
  have hB2:=hB1.keep hk2 hB1.lt;have hT2:=HT.out.keep (K:=(· <w.heap.size)) hk2w HT.out.2.2.2.2;have hno2:=hno w2 hk2w hT2;obtain⟨c0,c1,c2,c3,c4,c5,c6,c7,c8,c9⟩:=hB2.c10;clear hno hk1 hk2 hT1 hT2 hB1 hB2;have Hk2w:=hid hk2w;have Hno2:=hid hno2;clear hk2w hno2
  go_wp2_with fail
  refine Hno2.out.mono ?_;rintro e w3 ⟨rfl,hk3⟩;have hk3w:Keeps (· <w.heap.size) w w3:=Hk2w.out.trans (hk3.mono fun b hb=>by have:=Hk2w.out.size;omega)
  clear Hk2w Hno2 hk3 c0 c1 c2 c3 c4 c5 c6 c7 c8 c9;have Hk3w:=hid hk3w;clear hk3w
  go_wp2_with fail
  refine(HFIX.out w3 Hk3w.out).mono ?_;rintro e w9 ⟨rfl,hk9⟩;have hk99:=(Hk3w.out).trans (hk9.mono fun b hb=>by have:=(Hk3w.out).size;omega)
  clear hk9;have Hk99:=hid hk99;clear hk99
  go_wp2_with fail
  exact hR'.out _ _ ⟨rfl,Hk99.out⟩
 ·refine(hgo w1 hk1 hT1).mono ?_;rintro e w2 ⟨X,m,cb,st,rfl,hW,hge,hk2⟩;have hk2w:Keeps (· <w.heap.size) w w2:=hk1.trans (hk2.mono fun b hb=>by have:=hk1.size;omega)
  have hge0:w.heap.size≤X∧w.heap.size≤m∧w.heap.size≤cb:=by have:=hk1.size;omega
  have hB2:=hB1.keep hk2 hB1.lt;have hT2:=HT.out.keep (K:=(· <w.heap.size)) hk2w HT.out.2.2.2.2;have hgo2:=hgo w2 hk2w hT2;have hlt1:=hW.lts;obtain⟨c0,c1,c2,c3,c4,c5,c6,c7,c8,c9⟩:=hB2.c10;clear hgo hk1 hk2 hT1 hT2 hge hB1 hB2;have H3:=hid h3;have HG2:=hid hgo2;clear h3 hgo2;have Hk2w:=hid hk2w;have HW:=hid hW;clear hk2w hW
  go_wp2_with fail
  refine HG2.out.mono ?_;rintro e w3 ⟨Y,m2,cb2,sty,rfl,hWy,hgey,hk3⟩;have hap:Ap X m cb Y m2 cb2:=⟨⟨by omega,by omega,by omega⟩,⟨by omega,by omega,by omega⟩,by omega,by omega,by omega⟩
  have hwz:=Hk2w.out.size;have hTwo:Two2 w w3 X m cb Y m2 cb2 C (newC C) (newW C) st sty _ _:=⟨HW.out.stay hk3 HW.out.lt hlt1 (fun b hb=>by omega),hWy,⟨fun h=>by have:=HW.out.lt _ h;omega,fun h=>by have:=HW.out.lt _ h;omega,fun h=>by have:=HW.out.lt _ h;omega⟩,⟨fun h=>by have:=h.1;omega,fun h=>by have:=h.1;omega,fun h=>by have:=h.1;omega⟩⟩
  have hk3w:=hWy.kp;clear HG2 Hk2w HW hWy hgey hk3 c0 c1 c2 c3 c4 c5 c6 c7 c8 c9 hlt1 hwz;have HGE:=hid hge0;have HAP:=hid hap;clear hge0 hap;have HTwo:=hid hTwo;have Hk3w:=hid hk3w;clear hTwo hk3w
  go_wp2_with fail
  refine(HLIG.out w3 Hk3w.out).mono ?_;rintro e w4 ⟨⟨k,c',hkl,rfl⟩,hk4⟩;have hTw4:=HTwo.out.keep hk4;have hV0:(newW C).ver=0:=rfl;clear HTwo Hk3w hk4 HLIG;have hTw5:∃K L,Two2 w w4 X m cb Y m2 cb2 C (newC C) (newW C) st sty K L:=⟨_,_,hTw4⟩;generalize newC C=cs0 at*;generalize newW C=W0 at*;have HT5:=hid hTw5;clear hTw4 hTw5
  go_upto_block 0 with fail
  go_cut[]from 9 to 95 (fun wx=>∃(K L:Nat→Prop) (cs:List Int) (W:WrM) (st st':Int),Hid (GoodS C cs W)∧Hid (Two2 w wx X m cb Y m2 cb2 C cs W st st' K L))
  case first=>
   go_wp2_with fail
   go_loopw[48] (fun iv wx=>∃(i:Nat) (K L:Nat→Prop) (cs:List Int) (W:WrM) (st st':Int),iv=I (i:Int)∧i≤k∧i≤21∧Hid (GoodS C cs W)∧W.ver≤(i:Int)∧Hid (Two2 w wx X m cb Y m2 cb2 C cs W st st' K L)) (fun iv _=>k-(intOf iv).toNat)
   case atStart=>
    obtain⟨K,L,g⟩:=HT5.out;exact⟨0,K,L,cs0,W0,st,sty,rfl,Nat.zero_le _,by decide,H3,by rw[hV0];exact Int.le_refl _,hid g⟩
   case round=>
    clear HT5 H3 hV0;obtain⟨i,K,L,cs,W,sx,sy,rfl,hi,hi21,HG,hver,HTr⟩:=hrel
    by_cases hlt:i<k
    ·have hltI:(i:Int)<(k:Int):=by omega
     obtain⟨b,off,rfl,hkb,hc⟩:=H5.out (by omega)
     have hkb:b<w.heap.size:=hkb;obtain⟨o,hoi⟩:∃o,ops[i]? =some o:=⟨_,List.getElem?_eq_getElem (by omega)⟩
     obtain⟨p0,p1,p2⟩:=opv_at ops i o hoi;have hbl:=HTr.out.x.kp.block b hkb;have a0:=(World.cell?_of_block (a:=⟨b,off+(i*3+0),none⟩) hbl).trans (hc _ _ p0);have a1:=(World.cell?_of_block (a:=⟨b,off+(i*3+1),none⟩) hbl).trans (hc _ _ p1);have a2:=(World.cell?_of_block (a:=⟨b,off+(i*3+2),none⟩) hbl).trans (hc _ _ p2);simp only[Nat.add_zero,←Nat.add_assoc]at a0 a1 a2
     have hok:=HO.out o (List.mem_of_getElem? hoi);clear hc p0 p1 p2 hbl hoi
     go_upto_region 8 with fail
     have hka:Keeps (· <wr.heap.size) wr (wr.alloc (.cells #[.bool o.del,J o.id,.slice o.A o.fs.length o.c] 37)):=(Keeps.refl _ _).alloc (fun b hb=>hb) _;have hOB:=Blk.new wr [.bool o.del,J o.id,.slice o.A o.fs.length o.c] 37;have hTa:=HTr.out.keep hka;have hlx:=HTr.out.x.lts;have hly:=HTr.out.y.lts;generalize hOe:wr.heap.size=OB at*;generalize wr.alloc (.cells #[.bool o.del,J o.id,.slice o.A o.fs.length o.c] 37)=wa at*
     have hoka:o.ok wa (· <w.heap.size):=hok.keep hTa.x.kp fun b hb=>hb;clear a0 a1 a2 HTr hka hok
     by_cases h20:20<i
     ·have h20I:(20:Int)<(i:Int):=by omega
      obtain⟨b0,b1,b2⟩:=hOB.c3;clear hOB;have HTa:=hid hTa;clear hTa
      go_wp2_with fail
      go_meet
      case rel=>exact⟨K,L,cs,W,sx,sy,HG,HTa⟩
     ·have h20I:(i:Int)≤20:=by omega
      have hgr:=law_great o wa (· <w.heap.size) (fun b hb=>Nat.lt_of_lt_of_le hb hTa.x.kp.size) hoka;unfold OpV.cells at hgr;have hob:=hOB;obtain⟨b0,b1,b2⟩:=hob.c3;clear hob;have HGR:=hid hgr;clear hgr;have HTa:=hid hTa;have HOB:=hid hOB;have Hoka:=hid hoka;clear hTa hOB hoka
      go_wp2_with fail
      refine HGR.out.mono ?_;rintro e wb ⟨gb,rfl,hgb,hkb⟩;have hTb:=HTa.out.keep hkb;have hOBb:=HOB.out.keep hkb HOB.out.lt;have hokb:=Hoka.out.keep hkb (K:=(· <w.heap.size)) fun b hb=>Nat.lt_of_lt_of_le hb HTa.out.x.kp.size;clear HGR HTa HOB Hoka hkb b0 b1 b2
      cases gb with
      |true=>
       clear hOBb;have HTb:=hid hTb;clear hTb
       go_wp2_with fail
       go_meet
       case rel=>exact⟨K,L,cs,W,sx,sy,HG,HTb⟩
      |false=>
       have hfn:=hgb rfl;obtain⟨live,s0,t0,q0',hi0,hG⟩:=HG.out;obtain⟨W',er,cs',n,hop1,hop2,hop3,hop4,hop5,hop6,hop7,live',t',q',hi',hG'⟩:=hG.op o.del o.id o.fs hokb.id (by omega)
       have hwr:=fun(h:er≠0)=>op_refused hop1 h;obtain⟨SA,sc,CA,cc,TA,tc,hX,hs1,hsc,hs2⟩:=hTb.x.obj;obtain⟨μ,hm,hμc,hμs⟩:=hTb.x.mem;have k25:wb.cell? ⟨X,25,none⟩=some (.pointer (some ⟨m,0,none⟩)):=(hX.cell 25).trans x_get25;have hst:=mem_stores hm;rw[hμs]at hst;have hslx:SlAt wb K 1 (.slice o.A o.fs.length o.c) o.fs.length (o.fs.map Value.string):=hokb.sl.mono hTb.x.k0
       have hwant:=law_want X m C W hG SA TA CA W.segs.length sc tc cc o.del o.id o.fs o.A o.c wb K hTb.x.lt hX hsc hs2 hslx (by omega) (by omega) hop6
       have HWN:=hid hwant;have HST:=hid hst;have HGG:=hid hG;have HGN:Hid (GoodS C cs' W'):=hid ⟨_,_,_,_,_,hG'⟩;have HOP1:=hid hop1;have HOP3:=hid hop3;have HOP4:=hid hop4;have HOP5:=hid hop5;have HOP6:=hid hop6;have HWRR:=hid hwr;have hob:=hOBb;obtain⟨b0,b1,b2⟩:=hob.c3;clear hob hgb hG hG' hX hs1 hsc hs2 hm hμc hμs hst hslx hwant hop1 hop3 hop4 hop5 hop6 hwr;have HTb:=hid hTb
       have HOBb:=hid hOBb;have Hokb:=hid hokb;clear hTb hOBb hokb
       go_wp2_with fail
       refine HST.out.mono ?_;rintro e wq ⟨rfl,hwq⟩;subst hwq;clear HST k25
       go_wp2_with fail
       refine HWN.out.mono ?_;rintro e wc ⟨cv,sv,rfl,⟨A3,c3,rfl,-⟩,⟨A4,c4,rfl,-⟩,hkc⟩;obtain⟨W'segs,Wt',Wv',x0,x1,x2,x3,x4,x5⟩:=W';unfold WrM.vals;dsimp only;have hTc:=HTb.out.keep hkc;have hOBc:=HOBb.out.keep hkc HOBb.out.lt;have hokc:=Hokb.out.keep hkc (K:=(· <w.heap.size)) fun b hb=>Nat.lt_of_lt_of_le hb HTb.out.x.kp.size;clear HWN HTb HOBb Hokb hkc b0 b1 b2;have HTc:=hid hTc
       have HOBc:=hid hOBc;have Hokc:=hid hokc;clear hTc hOBc hokc
       go_upto_region 11 with fail
       have hkn:Keeps (· <wc.heap.size) wc (wc.alloc (.cells #[.slice A3 cs'.length c3,.slice A4 W'segs.length c4,I Wt',J Wv',I x0,I x1,I x2,I x3,I x4,I x5] 49)):=(Keeps.refl _ _).alloc (fun b hb=>hb) _;have hTn:=HTc.out.keep hkn;have hOBn:=HOBc.out.keep hkn HOBc.out.lt;have hokn:=Hokc.out.keep hkn (K:=(· <w.heap.size)) fun b hb=>Nat.lt_of_lt_of_le hb HTc.out.x.kp.size;generalize wc.alloc (.cells #[.slice A3 cs'.length c3,.slice A4 W'segs.length c4,I Wt',J Wv',I x0,I x1,I x2,I x3,I x4,I x5] 49)=wn at*
       generalize wc.heap.size=Bs at*;have hdo:=law_do hTn.x HGG.out HT.out HF.out o.del o.id o.fs o.A o.c (hokn.sl.mono hTn.x.k0) (by omega) hokn.id (by omega) HOP1.out hop2 HOP3.out (fun h=>(HOP4.out h).1) HOP5.out HOP6.out
       have HDO:=hid hdo;have hob:=hOBn;obtain⟨b0,b1,b2⟩:=hob.c3;clear hob hdo hkn HTc HOBc Hokc;have hwn:=hTn.x.kp.size;have HOX:=hid (show X<OB∧m<OB∧cb<OB∧Y<OB∧m2<OB∧cb2<OB from⟨hlx.1,hlx.2.1,hlx.2.2,hly.1,hly.2.1,hly.2.2⟩)
       have HVR:=hid (show Wv'≤(i:Int)+1 by have h9:Wv'≤W.ver+1:=hop7;omega)
       clear hlx hly hop7;have HTn:=hid hTn;have HOBn:=hid hOBn;have Hokn:=hid hokn;have Hwn:=hid hwn;clear hTn hOBn hokn hwn
       go_wp2_with fail
       refine HDO.out.mono ?_;rintro e wd ⟨rfl,⟨st2,hWd,hst2⟩,hkd⟩;obtain⟨hyd,hkxd⟩:=HTn.out.left HAP.out HGE.out hkd hWd;have hkyd:=HTn.out.ky;have hOBd:=HOBn.out.keep hkd (by obtain⟨y1,y2,y3,y4,y5,y6⟩:=HOX.out;exact⟨HOBn.out.lt,by omega,by omega,by omega⟩)
       have hokd:=Hokn.out.keep hkd (K:=(· <w.heap.size)) fun b hb=>(by have hb:b<w.heap.size:=hb;have:=Hwn.out;have:=HGE.out;exact⟨by omega,by omega,by omega,by omega⟩)
       have hkydx:¬L X∧¬L m∧¬L cb:=hkyd;obtain⟨K2,hK2⟩:∃K2:Nat→Prop,K2=fun b=>K b∨(wn.heap.size≤b∧b<wd.heap.size):=⟨_,rfl⟩;rw[←hK2]at hWd hkxd;clear HDO HTn HOBn Hokn Hwn hkd b0 b1 b2 hK2 hkyd
       by_cases her0:er=0
       ·subst her0;have hdoy:=law_do hyd HGG.out HT.out HF.out o.del o.id o.fs o.A o.c (hokd.sl.mono hyd.k0) (by omega) hokd.id (by omega) HOP1.out hop2 HOP3.out (fun h=>(HOP4.out h).1) HOP5.out HOP6.out
        have HDY:=hid hdoy;have hob:=hOBd;obtain⟨b0,b1,b2⟩:=hob.c3;clear hob hdoy hst2 hyd;have HWd:=hid hWd;have Hkxd:=hid hkxd;have HOBd:=hid hOBd;have Hokd:=hid hokd;have Hkydx:=hid hkydx;clear hWd hkxd hOBd hokd hkydx
        go_wp2_with fail
        refine HDY.out.mono ?_;rintro e we ⟨rfl,⟨sty2,hWy,-⟩,hke⟩;have hTe:=Two2.right HWd.out Hkxd.out Hkydx.out HAP.out (by have:=HGE.out;have h:=HAP.out.1;omega) hke hWy
        clear HDY HWd Hkxd HOBd Hokd Hkydx hWy hke b0 b1 b2;have HTe:=hid hTe;clear hTe
        go_wp2_with fail
        go_roundw
        case rel=>exact⟨i+1,_,_,cs',_,st2,sty2,by go_num,by omega,by omega,HGN,(by have:=HVR.out;dsimp only;omega),HTe⟩
        case measure=>exact msA
       ·have herb:(er==0)=false:=by rw[beq_eq_false_iff_ne];exact her0
        have hst3:=hst2 (HWRR.out her0);subst hst3;obtain⟨hWW,hcc⟩:=HOP4.out her0;rw[hWW,hcc]at hWd;have hTe:Two2 w wd X m cb Y m2 cb2 C cs W st2 sy K2 L:=⟨hWd,hyd,hkxd,hkydx⟩;obtain⟨_,_,_,_,_,_,hX,_⟩:=hTe.x.obj;obtain⟨μ,hm,hμc,hμs⟩:=hTe.x.mem;have k25:wd.cell? ⟨X,25,none⟩=some (.pointer (some ⟨m,0,none⟩)):=(hX.cell 25).trans x_get25;have hst:=mem_stores hm
        rw[hμs]at hst;have HST:=hid hst;clear hX hm hμc hμs hst hst2 hWd hyd hkxd hkydx hOBd hokd hWW hcc;have HTe:=hid hTe;clear hTe
        go_wp2_with fail
        refine HST.out.mono ?_;rintro e wq ⟨rfl,hwq⟩;subst hwq;clear HST k25
        go_wp2_with fail
        go_roundw
        case rel=>exact⟨i+1,_,_,cs,W,st2,sy,by go_num,by omega,by omega,HG,(by omega),HTe⟩
        case measure=>exact msA
    ·obtain rfl:i=k:=by omega
     have hltI:¬(i:Int)<(i:Int):=by omega
     go_wp2_with fail
     go_meet
     case rel=>exact⟨K,L,cs,W,sx,sy,HG,HTr⟩
  case rest=>
   clear HT5 H3 hV0;obtain⟨K,L,cs,W,s1,s2,HG,HTw⟩:=hcut;obtain⟨live,_,_,_,_,hG⟩:=HG.out;have hnseg:=hG.nseg;have hlen:=hG.dic.len;obtain⟨segs,wt,wv,v0,v1,v2,v3,v4,v5⟩:=W;obtain⟨SA,sc,_,_,_,_,hX,hs1,-,-⟩:=HTw.out.x.obj;obtain⟨SB,sb,_,_,_,_,hY,hs2,-,-⟩:=HTw.out.y.obj;obtain⟨μ,hm,hμc,-⟩:=HTw.out.x.mem;obtain⟨ν,hn,hνc,-⟩:=HTw.out.y.mem
   have hkw:=HTw.out.x.kp;have hlX:=hX.lt;have hlY:=hY.lt;have xc25:wc.cell? ⟨X,25,none⟩=some (.pointer (some ⟨m,0,none⟩)):=(hX.cell 25).trans x_get25;have xc26:wc.cell? ⟨X,26,none⟩=some (.slice SA segs.length sc):=(hX.cell 26).trans (x_get26 0 _ rfl);have xc27:wc.cell? ⟨X,27,none⟩=some (I wt):=(hX.cell 27).trans (x_get26 1 _ rfl);have xc28:wc.cell? ⟨X,28,none⟩=some (J wv):=(hX.cell 28).trans (x_get26 2 _ rfl)
   have xc29:wc.cell? ⟨X,29,none⟩=some (I v0):=(hX.cell 29).trans (x_get26 3 _ rfl);have xc30:wc.cell? ⟨X,30,none⟩=some (I v1):=(hX.cell 30).trans (x_get26 4 _ rfl);have xc31:wc.cell? ⟨X,31,none⟩=some (I v2):=(hX.cell 31).trans (x_get26 5 _ rfl);have xc32:wc.cell? ⟨X,32,none⟩=some (I v3):=(hX.cell 32).trans (x_get26 6 _ rfl);have xc33:wc.cell? ⟨X,33,none⟩=some (I v4):=(hX.cell 33).trans (x_get26 7 _ rfl)
   have xc34:wc.cell? ⟨X,34,none⟩=some (I v5):=(hX.cell 34).trans (x_get26 8 _ rfl);have yc25:wc.cell? ⟨Y,25,none⟩=some (.pointer (some ⟨m2,0,none⟩)):=(hY.cell 25).trans x_get25;have yc26:wc.cell? ⟨Y,26,none⟩=some (.slice SB segs.length sb):=(hY.cell 26).trans (x_get26 0 _ rfl);have yc27:wc.cell? ⟨Y,27,none⟩=some (I wt):=(hY.cell 27).trans (x_get26 1 _ rfl);have yc28:wc.cell? ⟨Y,28,none⟩=some (J wv):=(hY.cell 28).trans (x_get26 2 _ rfl)
   have yc29:wc.cell? ⟨Y,29,none⟩=some (I v0):=(hY.cell 29).trans (x_get26 3 _ rfl);have yc30:wc.cell? ⟨Y,30,none⟩=some (I v1):=(hY.cell 30).trans (x_get26 4 _ rfl);have yc31:wc.cell? ⟨Y,31,none⟩=some (I v2):=(hY.cell 31).trans (x_get26 5 _ rfl);have yc32:wc.cell? ⟨Y,32,none⟩=some (I v3):=(hY.cell 32).trans (x_get26 6 _ rfl);have yc33:wc.cell? ⟨Y,33,none⟩=some (I v4):=(hY.cell 33).trans (x_get26 7 _ rfl)
   have yc34:wc.cell? ⟨Y,34,none⟩=some (I v5):=(hY.cell 34).trans (x_get26 8 _ rfl);have HSS:=hid (show∀w':World,Keeps (· <wc.heap.size) wc w'→(e25_10 w' X (.pointer (some ⟨m,0,none⟩)) (.slice SA segs.length sc) (I wt) (J wv) (I v0) (I v1) (I v2) (I v3) (I v4) (I v5) (d25_10 w' Y (.pointer (some ⟨m2,0,none⟩)) (.slice SB segs.length sb) (I wt) (J wv) (I v0) (I v1) (I v2) (I v3) (I v4) (I v5)))from fun w' k=>by
    have eX:=fun i=>World.cell?_of_block (a:=⟨X,i,none⟩) (k.block X hlX);have eY:=fun i=>World.cell?_of_block (a:=⟨Y,i,none⟩) (k.block Y hlY);exact⟨(eX 25).trans xc25,(eX 26).trans xc26,(eX 27).trans xc27,(eX 28).trans xc28,(eX 29).trans xc29,(eX 30).trans xc30,(eX 31).trans xc31,(eX 32).trans xc32,(eX 33).trans xc33,(eX 34).trans xc34,(eY 25).trans yc25,(eY 26).trans yc26,(eY 27).trans yc27,(eY 28).trans yc28,(eY 29).trans yc29,(eY 30).trans yc30,(eY 31).trans yc31,(eY 32).trans yc32,(eY 33).trans yc33,(eY 34).trans yc34⟩)
   have hsx:=hs1.mono HTw.out.x.lt;have hsy:=hs2.mono HTw.out.y.lt;have HA0:=hid (show∀wa,Keeps (· <wc.heap.size) wc wa→Z 10 #[] wa fun e w'=>e= .returned (.bool true)∧Hid (Keeps (· <wc.heap.size) wc w'∧Keeps (· <wa.heap.size) wa w')∧(e25_10 w' X (.pointer (some ⟨m,0,none⟩)) (.slice SA segs.length sc) (I wt) (J wv) (I v0) (I v1) (I v2) (I v3) (I v4) (I v5) (d25_10 w' Y (.pointer (some ⟨m2,0,none⟩)) (.slice SB segs.length sb) (I wt) (J wv) (I v0) (I v1) (I v2) (I v3) (I v4) (I v5)))from fun wa h1=>by
    refine(HFIX.out wa (hkw.trans (h1.mono fun b hb=>by have:=hkw.size;omega))).mono ?_
    rintro e w' ⟨rfl,h4⟩;have h9:=h1.trans (h4.mono fun b hb=>by have:=h1.size;omega)
    exact⟨rfl,⟨h9,h4⟩,HSS.out _ h9⟩)
   have HA1:=hid (show∀wa p,(p=m∨p=m2)→Keeps (· <wc.heap.size) wc wa→Z 20 #[.pointer (some ⟨p,0,none⟩)] wa fun e w'=>∃nb,e= .returned (.slice (some ⟨nb,0,none⟩) cs.length cs.length)∧Hid (Blk w' nb (cs.map (Value.int .u32))∧Keeps (· <wc.heap.size) wc w'∧Keeps (· <wa.heap.size) wa w')∧(e25_10 w' X (.pointer (some ⟨m,0,none⟩)) (.slice SA segs.length sc) (I wt) (J wv) (I v0) (I v1) (I v2) (I v3) (I v4) (I v5) (d25_10 w' Y (.pointer (some ⟨m2,0,none⟩)) (.slice SB segs.length sb) (I wt) (J wv) (I v0) (I v1) (I v2) (I v3) (I v4) (I v5)))from fun wa p hp h1=>by
    rcases hp with rfl|rfl
    ·refine(mem_cells (hm.keep h1 hm.obj.lt hm.cells.lt)).mono ?_;rintro e w' ⟨rfl,h3,h4⟩;rw[hμc]at h3 ⊢;have h9:=h1.trans (h4.mono fun b hb=>by have:=h1.size;omega)
     exact⟨_,rfl,⟨h3,h9,h4⟩,HSS.out _ h9⟩
    ·refine(mem_cells (hn.keep h1 hn.obj.lt hn.cells.lt)).mono ?_;rintro e w' ⟨rfl,h3,h4⟩;rw[hνc]at h3 ⊢;have h9:=h1.trans (h4.mono fun b hb=>by have:=h1.size;omega)
     exact⟨_,rfl,⟨h3,h9,h4⟩,HSS.out _ h9⟩)
   have HA2:=hid (show∀wa nb nb2,Blk wa nb (cs.map (Value.int .u32))→Blk wa nb2 (cs.map (Value.int .u32))→Keeps (· <wc.heap.size) wc wa→Z 26 #[.slice (some ⟨nb,0,none⟩) cs.length cs.length,.slice (some ⟨nb2,0,none⟩) cs.length cs.length] wa fun e w'=>e= .returned (.bool true)∧Hid (Keeps (· <wc.heap.size) wc w'∧Keeps (· <wa.heap.size) wa w')∧(e25_10 w' X (.pointer (some ⟨m,0,none⟩)) (.slice SA segs.length sc) (I wt) (J wv) (I v0) (I v1) (I v2) (I v3) (I v4) (I v5) (d25_10 w' Y (.pointer (some ⟨m2,0,none⟩)) (.slice SB segs.length sb) (I wt) (J wv) (I v0) (I v1) (I v2) (I v3) (I v4) (I v5)))from fun wa nb nb2 h0 h00 h1=>by
    refine(same_any (SlAt.of_blkS (K:=(· <wa.heap.size)) h0 h0.lt (by rw[List.length_map,Nat.mul_one]) (by unfold maxLen;omega)) (SlAt.of_blkS (K:=(· <wa.heap.size)) h00 h00.lt (by rw[List.length_map,Nat.mul_one]) (by unfold maxLen;omega))).mono ?_
    rintro e w' ⟨rfl,nn,rfl⟩;have h9:=h1.drewN nn;exact⟨by rw[decide_eq_true rfl],⟨h9,(Keeps.refl _ _).drewN nn⟩,HSS.out _ h9⟩)
   have HA3:=hid (show∀wa,Keeps (· <wc.heap.size) wc wa→Z 27 #[.agg #[.slice SA segs.length sc,I wt,J wv,I v0,I v1,I v2,I v3,I v4,I v5],.agg #[.slice SB segs.length sb,I wt,J wv,I v0,I v1,I v2,I v3,I v4,I v5]] wa fun e w'=>e= .returned (.bool true)∧Hid (Keeps (· <wc.heap.size) wc w'∧Keeps (· <wa.heap.size) wa w')∧(e25_10 w' X (.pointer (some ⟨m,0,none⟩)) (.slice SA segs.length sc) (I wt) (J wv) (I v0) (I v1) (I v2) (I v3) (I v4) (I v5) (d25_10 w' Y (.pointer (some ⟨m2,0,none⟩)) (.slice SB segs.length sb) (I wt) (J wv) (I v0) (I v1) (I v2) (I v3) (I v4) (I v5)))from fun wa h1=>by
    refine(ref12_same segs wt wv v0 v1 v2 v3 v4 v5 SA sc SB sb wa (· <wc.heap.size) (fun b hb=>by have:=h1.size;omega) (hsx.keep h1 fun b hb=>hb) (hsy.keep h1 fun b hb=>hb) (by dsimp only at hnseg;omega)).mono ?_
    rintro e w' ⟨rfl,h4⟩;have h9:=h1.trans (h4.mono fun b hb=>by have:=h1.size;omega)
    exact⟨rfl,⟨h9,h4⟩,HSS.out _ h9⟩)
   clear hG hs1 hs2 hsx hsy hm hn hμc hνc hX hY HFIX;have Hkw:=hid hkw;clear hkw
   go_upto_region 16 with fail
   go_region_held3 (fun w'=>(e25_10 w' X (.pointer (some ⟨m,0,none⟩)) (.slice SA segs.length sc) (I wt) (J wv) (I v0) (I v1) (I v2) (I v3) (I v4) (I v5) (d25_10 w' Y (.pointer (some ⟨m2,0,none⟩)) (.slice SB segs.length sb) (I wt) (J wv) (I v0) (I v1) (I v2) (I v3) (I v4) (I v5)))) (go_keep)
    (first
     |(go_at_call 10;refine(HA0.out _ ?_).mono ?_;(focus((repeat(first|with_reducible exact Keeps.refl _ _|with_reducible exact HQ3.out.1|with_reducible exact HQ2.out.1|with_reducible exact HQ4.out.2.1|with_reducible exact HQ1.out.2.1|with_reducible exact HQ0.out.1|with_reducible refine Keeps.drew ?_|with_reducible refine Keeps.drewN ?_ _));all_goals(intro b hb;exact hb)));rintro e wb0 ⟨rfl,HQ0,⟨q0,q1,q2,q3,q4,q5,q6,q7,q8,q9,q10,q11,q12,q13,q14,q15,q16,q17,q18,q19⟩⟩)
     |(go_at_call 20;with_reducible refine(HA1.out _ _ (Or.inl rfl) ?_).mono ?_;(focus((repeat(first|with_reducible exact Keeps.refl _ _|with_reducible exact HQ3.out.1|with_reducible exact HQ2.out.1|with_reducible exact HQ4.out.2.1|with_reducible exact HQ1.out.2.1|with_reducible exact HQ0.out.1|with_reducible refine Keeps.drew ?_|with_reducible refine Keeps.drewN ?_ _));all_goals(intro b hb;exact hb)));rintro e wb1 ⟨nb,rfl,HQ1,⟨q0,q1,q2,q3,q4,q5,q6,q7,q8,q9,q10,q11,q12,q13,q14,q15,q16,q17,q18,q19⟩⟩)
     |(go_at_call 20;with_reducible refine(HA1.out _ _ (Or.inr rfl) ?_).mono ?_;(focus((repeat(first|with_reducible exact Keeps.refl _ _|with_reducible exact HQ3.out.1|with_reducible exact HQ2.out.1|with_reducible exact HQ4.out.2.1|with_reducible exact HQ1.out.2.1|with_reducible exact HQ0.out.1|with_reducible refine Keeps.drew ?_|with_reducible refine Keeps.drewN ?_ _));all_goals(intro b hb;exact hb)));rintro e wb4 ⟨nb2,rfl,HQ4,⟨q0,q1,q2,q3,q4,q5,q6,q7,q8,q9,q10,q11,q12,q13,q14,q15,q16,q17,q18,q19⟩⟩)
     |(go_at_call 26;refine(HA2.out _ _ _ ?_ ?_ ?_).mono ?_;(focus(repeat(first|with_reducible exact HQ1.out.1|with_reducible exact HQ4.out.1|with_reducible refine Blk.drew ?_|with_reducible refine Blk.keepS HQ4.out.2.2 ?_)));(focus(repeat(first|with_reducible exact HQ1.out.1|with_reducible exact HQ4.out.1|with_reducible refine Blk.drew ?_|with_reducible refine Blk.keepS HQ4.out.2.2 ?_)));(focus((repeat(first|with_reducible exact Keeps.refl _ _|with_reducible exact HQ3.out.1|with_reducible exact HQ2.out.1|with_reducible exact HQ4.out.2.1|with_reducible exact HQ1.out.2.1|with_reducible exact HQ0.out.1|with_reducible refine Keeps.drew ?_|with_reducible refine Keeps.drewN ?_ _));all_goals(intro b hb;exact hb)));rintro e wb2 ⟨rfl,HQ2,⟨q0,q1,q2,q3,q4,q5,q6,q7,q8,q9,q10,q11,q12,q13,q14,q15,q16,q17,q18,q19⟩⟩)
     |(go_at_call 27;refine(HA3.out _ ?_).mono ?_;(focus((repeat(first|with_reducible exact Keeps.refl _ _|with_reducible exact HQ3.out.1|with_reducible exact HQ2.out.1|with_reducible exact HQ4.out.2.1|with_reducible exact HQ1.out.2.1|with_reducible exact HQ0.out.1|with_reducible refine Keeps.drew ?_|with_reducible refine Keeps.drewN ?_ _));all_goals(intro b hb;exact hb)));rintro e wb3 ⟨rfl,HQ3,⟨q0,q1,q2,q3,q4,q5,q6,q7,q8,q9,q10,q11,q12,q13,q14,q15,q16,q17,q18,q19⟩⟩))
   all_goals
    go_wp2_with fail
    exact hR'.out _ _ ⟨rfl,Hkw.out.trans (HQ3.out.1.mono fun b hb=>by have:=Hkw.out.size;omega)⟩
end Go.Proofs.YtogdknnkhkjmcaaGreatDoor
namespace Go.Proofs.YtogdknnkhkjmcaaGreatDoor
open Go.RowKit Go.ChangeShapes Go.WideShapes Go.ChangeAt Go.Deep
set_option linter.all false
theorem tab_writeRefused {W:World}(h:laidMetH Tryz.prog Rows.writeRefusedRow.laid W):FoldTab W:=foldTab_of (l:=Rows.writeRefusedRow.laid) h (by unfold Rows.writeRefusedRow;simp) (by unfold Rows.writeRefusedRow;simp) (by unfold Rows.writeRefusedRow;simp)
theorem pool_writeRefused {W:World}(h:laidMetH Tryz.prog Rows.writeRefusedRow.laid W):PTab W:=pTab_of (l:=Rows.writeRefusedRow.laid) h (by unfold Rows.writeRefusedRow;simp)
theorem writeRefused_met (os:Os):laidMet Tryz.prog Rows.writeRefusedRow.laid ((laidWorld12 os).forCall (fun _ _=>0) ⟨#[],#[.agg #[.int .i64 0,.int .i64 0,.int .i64 0,.int .i64 0,.int .i64 0,.int .i64 0,.int .i64 0,.int .i64 0,.float .f64 0,.float .f64 0],.slice none 0 0],[]⟩).memory:=
 laidMet_of_run' 8 (by kernel_rfl) (by kernel_rfl)
theorem writeRefused_reads (os:Os){H:Type}(enc:TypeId×Value→H):∃places,DataW.whole enc Tryz.prog ((laidWorld12 os).forCall (fun _ _=>0) ⟨#[],#[.agg #[.int .i64 0,.int .i64 0,.int .i64 0,.int .i64 0,.int .i64 0,.int .i64 0,.int .i64 0,.int .i64 0,.float .f64 0,.float .f64 0],.slice none 0 0],[]⟩).memory Tryz.f5.params.toList Rows.writeRefusedSpec.vars false (#[.agg #[.int .i64 0,.int .i64 0,.int .i64 0,.int .i64 0,.int .i64 0,.int .i64 0,.int .i64 0,.int .i64 0,.float .f64 0,.float .f64 0],.slice none 0 0]:Array Value).toList 8=some ([.agg [.lit (.int .i64 0),.lit (.int .i64 0),.agg [.lit (.int .i64 0),.lit (.int .i64 0),.lit (.int .i64 0),.lit (.int .i64 0)],.lit (.int .i64 0),.lit (.int .i64 0),.lit (.float .f64 0),.lit (.float .f64 0)],.nil],[],places):=
 ⟨[],by kernel_rfl⟩
set_option maxRecDepth 100000 in
theorem writeRefused_lifted (os:Os)(started:os.Started)(H:Type)(enc:TypeId×Value→H)(F:Stop.Interp):
  ReturnsInHanded {} Tryz.checked os 5 .any ((OpenSpec.ofChange Rows.writeRefusedSpec).preRow enc Tryz.prog Tryz.f5 Rows.writeRefusedRow.domain false Rows.writeRefusedRow.laid) (((OpenSpec.ofChange Rows.writeRefusedSpec).at F).post enc Tryz.prog Tryz.f5 false true false false):=by
 obtain⟨places,hx⟩:=writeRefused_reads os enc;refine returnsInHanded_of_row (C:=Tryz.checked) (s:=OpenSpec.ofChange Rows.writeRefusedSpec) Tryz.own started (by kernel_rfl) Tryz.func5
  (witness_row_at (enc:=enc) (C:=Tryz.checked) false (laidWorld12 os) #[.agg #[.int .i64 0,.int .i64 0,.int .i64 0,.int .i64 0,.int .i64 0,.int .i64 0,.int .i64 0,.int .i64 0,.float .f64 0,.float .f64 0],.slice none 0 0] rfl (by kernel_rfl) (by kernel_rfl) (by kernel_rfl)
   (OpenSpec.preRow_of_cond 8 hx (by kernel_rfl) (fun k hk=>by cases hk) (by kernel_rfl) (writeRefused_met os))) ?_
 intro W base args ds gs before hval0 hW _ _ hsz0 hL _ _;have hsz:(DataW.weightsEach Tryz.prog (Tryz.f5.params.toList++(OpenSpec.ofChange Rows.writeRefusedSpec).bare.plain.varTypes Tryz.prog) (ds++gs)).all (· ≤reachBytes)=true:=hsz0;have hval:∀(j:Nat) t v,Tryz.f5.params[j]? =some t→args[j]? =some v→Value.okWide Tryz.prog W .any base t v:=hval0;have hW':=hW;obtain⟨p,q,hA0,hV,rfl,hfz,hnd⟩:=hW
 have hA:DataW.TrodAll enc Tryz.prog W 0 (fun _=>true) true Tryz.f5.params.toList args.toList ds p:=hA0;rw[Tryz.params5]at hA hval hsz;obtain⟨v0,vs0,d0,ds0,p0,q0,hargs,rfl,rfl,h0,r0⟩:=trodAll_cons hA;obtain⟨v1,vs1,d1,ds1,p1,q1,rfl,rfl,rfl,h1,r1⟩:=trodAll_cons r0;obtain⟨rfl,rfl,rfl⟩:=trodAll_nil r1;obtain rfl:args=#[v0,v1]:=by cases args;simp_all
 obtain⟨rfl,rfl⟩:=trodVars_none hV;simp only[List.append_nil]at hW';have k0:=h0;have k1:=h1;have hlt0:∀x∈p0,x.block<W.heap.size:=fun x hx=>by simpa using hW'.lt x (by simp[hx])
 have hlt1:∀x∈p1,x.block<W.heap.size:=fun x hx=>by simpa using hW'.lt x (by simp[hx])
 obtain⟨a0,rfl⟩:=open_conf (hval 0 25 v0 rfl rfl) h0;obtain⟨A1,c1,l1,rfl,w10,s1⟩:=open_ops (hval 1 26 v1 rfl rfl) h1;have w1:=w10 fun m hm=>Nat.le_trans (of_decide_eq_true (List.all_eq_true.1 hsz m (DataW.weights_mem_each (j:=1) rfl rfl m hm))) (by decide)
 clear hA0 hval0;have hwalk:Calls Tryz.prog 5 #[.agg a0.list.toArray,.slice A1 l1.length c1] W fun e W'=>e= .returned (.bool true)∧Keeps (· <W.heap.size) W W':=by
  exact law_refused a0 l1 A1 c1 W (pool_writeRefused hL) (tab_writeRefused hL) s1 w1
 refine hwalk.mono fun e W' ⟨he,hg⟩=>?_;subst he;exact⟨_,rfl,_,_,_,_,_,[],hW',trodAll_cons_mk (shut_bool Tryz.underlying4 _) trodAll_mk0,trodAll_cons_mk (arg_kept (by kernel_rfl) (of_decide_eq_true (by kernel_rfl)) k0 hg hlt0) (trodAll_cons_mk (arg_kept (by kernel_rfl) (of_decide_eq_true (by kernel_rfl)) k1 hg hlt1) (trodAll_mk0)),rfl,hg.below.frame _,fun h=>by cases h⟩
theorem writeRefused_said:Rows.WriteRefusedSaid:=
 OpenClaim.holds_of_cond 5 Tryz.f5 rfl rfl rfl rfl rfl rfl rfl ⟨rfl,rfl,rfl,rfl,rfl⟩ rfl rfl rfl rfl rfl (by kernel_rfl) Tryz.func5 (by kernel_rfl)
  (of_decide_eq_true (by kernel_rfl)) (by unfold Func.isWrapper;first|(rw[if_pos (by decide+kernel)];kernel_rfl)|(rw[if_neg (by decide+kernel)];exact⟨rfl,rfl⟩))
  (fun os started H enc _ F=>by rw[OpenClaim.pre_eq_preRow];exact writeRefused_lifted os started H enc F)
theorem writeRefused_plain (f : FuncId) (fn : Func) (hf : Tryz.pinned.checked.prog.funcNamed "plover/ploverlaw12.WriteRefused" = some f) (hfn : Tryz.pinned.checked.prog.funcs[f]? = some fn) :
  false=Tryz.pinned.checked.prog.looks []∧∀(j:Nat) t,fn.params[j]? =some t→Tryz.pinned.checked.prog.wantsStandIn t=false:=by
 obtain rfl : f = 5 := Option.some.inj ((show Tryz.prog.funcNamed "plover/ploverlaw12.WriteRefused" = some 5 by kernel_rfl).symm.trans hf) |>.symm
 obtain rfl:fn=Tryz.f5:=(Option.some.inj (Tryz.func5.symm.trans hfn)).symm;refine⟨by kernel_rfl,fun j t ht=>?_⟩
 rw[Tryz.params5]at ht;have ht':t=25∨t=26:=by simpa using Array.mem_of_getElem? ht
 rcases ht' with rfl|rfl
 ·exact(show Tryz.prog.wantsStandIn 25=false by kernel_rfl)
 ·exact(show Tryz.prog.wantsStandIn 26=false by kernel_rfl)
theorem writeRefused_holds:Rows.WriteRefusedCardSaid:=
 Claim7.holds_tied_plain_at .later [] _ _ _ _ writeRefused_said (fun _ h=>by cases h) (by kernel_rfl) (fun _ h=>by cases h) writeRefused_row_tie rfl ⟨rfl,rfl⟩ (by kernel_rfl) rfl writeRefused_plain (by kernel_rfl)
end Go.Proofs.YtogdknnkhkjmcaaGreatDoor
