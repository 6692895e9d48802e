/- Lemmas on the programs that the statement reaches. -/
import Derived.Test.YtogdknnkhkjmcaaGreatDoorKAuto
import Derived.Test.YtogdknnkhkjmcaaGreatDoorKAuto1
import Derived.Test.YtogdknnkhkjmcaaGreatDoorKAuto2
import Derived.Test.YtogdknnkhkjmcaaGreatDoorKAuto3
namespace Go.Proofs.YtogdknnkhkjmcaaGreatDoor
open Go.RowKit
set_option linter.all false
structure MemS where
 cells:List Int
 loads:Int
 stores:Int
structure RunS where
 log:List Int
 pos:Nat
 inn:Bool
 may:Bool
 off:Bool
 over:Bool
 err:Int
structure St where
 r:RunS
 m:MemS
def MemS.inb (μ:MemS)(a:Int):Bool:=decide (0≤a)&&decide (a<μ.cells.length)
def MemS.at (μ:MemS)(a:Int):Int:=μ.cells.getD a.toNat 0
def MemS.load (μ:MemS)(a:Int):MemS:=if μ.inb a then{ μ with loads:=wrap64 (μ.loads+1) }else μ
def MemS.store (μ:MemS)(a v:Int):MemS:=
 if μ.inb a then{ μ with cells:=μ.cells.set a.toNat v,stores:=wrap64 (μ.stores+1) }else μ
def RunS.turnK (s:RunS):Nat:=
 if !s.inn||s.off then 0 else if s.pos<s.log.length then 1 else if !s.may then 0 else 2
def RunS.turn (s:RunS):RunS:=
 if !s.inn||s.off then s else if s.pos<s.log.length then{ s with pos:=s.pos+1 }
 else if !s.may then{ s with off:=true }else{ s with may:=false }
def RunS.made (s:RunS)(v e:Int):RunS:=
 if e=0 then{ s with log:=s.log++[v],pos:=s.pos+1 }else{ s with err:=e,off:=true }
def St.load (s:St)(a:Int):Int×St:=
 if s.r.turnK=2 then
  (if s.m.inb a then s.m.at a else 0,⟨s.r.turn.made (if s.m.inb a then s.m.at a else 0) (if s.m.inb a then 0 else 2),s.m.load a⟩)
 else if s.r.turnK=1 then(s.r.log.getD s.r.pos 0,⟨s.r.turn,s.m⟩)
 else(0,⟨s.r.turn,s.m⟩)
def St.store (s:St)(a v:Int):St:=
 if s.r.turnK=2 then⟨s.r.turn.made 0 (if s.m.inb a then 0 else 2),s.m.store a v⟩
 else⟨s.r.turn,s.m⟩
def St.isOff (s:St):Bool:=s.r.off|| !s.r.inn
inductive Tree (α:Type) where
 |ret (x:α)
 |load (a:Int) (k:Int→Tree α)
 |store (a v:Int) (k:Tree α)
 |off (k:Bool→Tree α)
namespace Tree
def bind {α β:Type}:Tree α→(α→Tree β)→Tree β
 |ret x,f=>f x
 |load a k,f=>load a fun v=>(k v).bind f
 |store a v k,f=>store a v (k.bind f)
 |off k,f=>off fun b=>(k b).bind f
def exec {α:Type}:Tree α→St→α×St
 |ret x,s=>(x,s)
 |load a k,s=>(k (s.load a).1).exec (s.load a).2
 |store a v k,s=>k.exec (s.store a v)
 |off k,s=>(k s.isOff).exec s
theorem exec_bind {α β:Type}(t:Tree α)(f:α→Tree β):∀s,(t.bind f).exec s=(f (t.exec s).1).exec (t.exec s).2:=by
 induction t with
 |ret x=>intro s;rfl
 |load a k ih=>intro s;exact ih _ _
 |store a v k ih=>intro s;exact ih _
 |off k ih=>intro s;exact ih _ _
end Tree
def RunS.begin (s:RunS):RunS:={ s with pos:=0,inn:=true,may:=true,off:=false }
def RunS.finish (s:RunS):RunS:={ s with inn:=false,over:= !s.off||decide (s.err≠0) }
def St.step {α:Type}(s:St)(t:Tree α):α×St:=
 ((t.exec ⟨s.r.begin,s.m⟩).1,⟨(t.exec ⟨s.r.begin,s.m⟩).2.r.finish,(t.exec ⟨s.r.begin,s.m⟩).2.m⟩)
theorem hid {p:Prop}(h:p):Hid p:=h
theorem calls_hide {P:Program}{f:FuncId}{args:Array Value}{w:World}{R:Ending→World→Prop}
  (h:∀R':Ending→World→Prop,Hid (∀e w',R e w'→R' e w')→Calls P f args w R'):Calls P f args w R:=h R (fun _ _ r=>r)
theorem wp_gen {P:Program}{c:Code}{Q:Exit→Act→World→Prop}{a:Act}{w:World}(F:World→Prop)(hw:F w)(h:∀w',F w'→Code.wp P c Q a w'):Code.wp P c Q a w:=h w hw
theorem bp_gen {P:Program}{f:Func}{R:Ending→World→Prop}{x:Exit}{a:Act}{w:World}(F:World→Prop)(hw:F w)(h:∀w',F w'→bodyPost P f R x a w'):bodyPost P f R x a w:=h w hw
theorem calls_gen {P:Program}{f:FuncId}{args:Array Value}{R:Ending→World→Prop}{w:World}(F:World→Prop)(hw:F w)(h:∀w',F w'→Calls P f args w' R):Calls P f args w R:=h w hw
def Blk (w:World)(b:Nat)(l:List Value):Prop:=∃T,w.heap[b]? =some (.cells l.toArray T (0,0))
theorem Blk.lt {w:World}{b:Nat}{l:List Value}(h:Blk w b l):b<w.heap.size:=by
 obtain⟨T,h⟩:=h;exact(Array.getElem?_eq_some_iff.1 h).1
theorem Blk.cell {w:World}{b:Nat}{l:List Value}(h:Blk w b l)(i:Nat):w.cell? ⟨b,i,none⟩=l[i]? :=by
 obtain⟨T,h⟩:=h
 simp[World.cell?,h]
theorem Blk.free {w:World}{b:Nat}{l:List Value}(h:Blk w b l)(i:Nat):w.frozen? ⟨b,i,none⟩=false:=by
 obtain⟨T,h⟩:=h
 simp[World.frozen?,h]
theorem Blk.set {w:World}{b:Nat}{l:List Value}(h:Blk w b l)(i:Nat)(v:Value):Blk (w.setCell ⟨b,i,none⟩ v) b (l.set i v):=by
 obtain⟨T,h⟩:=h;refine⟨T,?_⟩
 simp[World.setCell,Array.getElem?_modify,h]
theorem Blk.of_eq {w w':World}{b:Nat}{l:List Value}(h:Blk w b l)(e:w'.heap[b]? =w.heap[b]?):Blk w' b l:=by
 obtain⟨T,h⟩:=h;exact⟨T,e.trans h⟩
theorem Blk.set_ne {w:World}{b:Nat}{l:List Value}(h:Blk w b l){a:Addr}(v:Value)(hb:b≠a.block):Blk (w.setCell a v) b l:=
 h.of_eq (Below.heap_setCell w a v b hb)
theorem Blk.alloc {w:World}{b:Nat}{l:List Value}(h:Blk w b l)(o:Obj):Blk (w.alloc o) b l:=
 h.of_eq (Below.heap_alloc w o b h.lt)
theorem Blk.drew {w:World}{b:Nat}{l:List Value}(h:Blk w b l):Blk w.drew b l:=h
theorem Blk.drewN {w:World}{b:Nat}{l:List Value}(h:Blk w b l)(n:Nat):Blk (w.drewN n) b l:=h.of_eq (by simp)
theorem Blk.new (w:World)(l:List Value)(T:TypeId):Blk (w.alloc (.cells l.toArray T)) w.heap.size l:=
 ⟨T,heap_alloc_new w _⟩
theorem Blk.new' (w:World)(l:List Value)(T:TypeId){b:Nat}(hb:b=w.heap.size):Blk (w.alloc (.cells l.toArray T)) b l:=hb▸Blk.new w l T
theorem Blk.grown {w w':World}{row:Option Nat}{b:Nat}{l:List Value}(h:Blk w b l)(hg:w.grownBy w' row)(hb:some b≠row):Blk w' b l:=
 h.of_eq (hg.block b h.lt hb)
theorem Blk.inj {w:World}{b:Nat}{l l':List Value}(h:Blk w b l)(h':Blk w b l'):l=l':=by
 obtain⟨T,h⟩:=h;obtain⟨T',h'⟩:=h';rw[h]at h'
 simpa using congrArg (fun o=>match o with|some (Obj.cells c _ _)=>c.toList|_=>[]) h'
structure Keeps (K:Nat→Prop)(w w':World):Prop where
 os:w'.os=w.os
 tape:w'.tape=w.tape
 output:w'.output=w.output
 size:w.heap.size≤w'.heap.size
 block:∀b,K b→w'.heap[b]? =w.heap[b]?
theorem Keeps.refl (K:Nat→Prop)(w:World):Keeps K w w:=⟨rfl,rfl,rfl,Nat.le_refl _,fun _ _=>rfl⟩
theorem Keeps.trans {K:Nat→Prop}{a b c:World}(h:Keeps K a b)(k:Keeps K b c):Keeps K a c:=
 ⟨k.os.trans h.os,k.tape.trans h.tape,k.output.trans h.output,Nat.le_trans h.size k.size,fun i hi=>(k.block i hi).trans (h.block i hi)⟩
theorem Keeps.mono {K K':Nat→Prop}{w w':World}(h:Keeps K w w')(hK:∀b,K' b→K b):Keeps K' w w':=
 ⟨h.os,h.tape,h.output,h.size,fun b hb=>h.block b (hK b hb)⟩
theorem Keeps.drew {K:Nat→Prop}{a w:World}(h:Keeps K a w):Keeps K a w.drew:=⟨h.os,h.tape,h.output,h.size,h.block⟩
theorem Keeps.drewN {K:Nat→Prop}{a w:World}(h:Keeps K a w)(n:Nat):Keeps K a (w.drewN n):=
 h.trans ⟨rfl,rfl,rfl,Nat.le_refl _,fun _ _=>rfl⟩
theorem Keeps.alloc {K:Nat→Prop}{a w:World}(h:Keeps K a w)(hK:∀b,K b→b<w.heap.size)(o:Obj):Keeps K a (w.alloc o):=
 h.trans ⟨rfl,rfl,rfl,by simp,fun b hb=>Below.heap_alloc _ _ _ (hK b hb)⟩
theorem Keeps.setCell {K:Nat→Prop}{a w:World}(h:Keeps K a w){p:Addr}(hp:¬K p.block)(u:Value):Keeps K a (w.setCell p u):=
 h.trans ⟨rfl,rfl,rfl,by simp[World.setCell],fun b hb=>Below.heap_setCell _ _ _ _ (fun e=>hp (e▸hb))⟩
theorem Keeps.grown {K:Nat→Prop}{a w w':World}{row:Option Nat}(h:Keeps K a w)(hK:∀b,K b→b<w.heap.size)(hg:w.grownBy w' row)
  (hr:∀k,row=some k→¬K k):Keeps K a w':=
 h.trans ⟨hg.os,hg.tape,hg.output,hg.size,fun b hb=>hg.block b (hK b hb) (fun e=>hr b e.symm hb)⟩
theorem Keeps.below {B:Nat}{w w':World}(h:Keeps (· <B) w w'):Below B w w':=⟨h.os,h.tape,h.output,h.size,h.block⟩
theorem Below.keeps {B:Nat}{K:Nat→Prop}{w w':World}(h:Below B w w')(hK:∀b,K b→b<B):Keeps K w w':=
 ⟨h.os,h.tape,h.output,h.size,fun b hb=>h.block b (hK b hb)⟩
theorem Blk.keep {K:Nat→Prop}{w w':World}{b:Nat}{l:List Value}(h:Blk w b l)(k:Keeps K w w')(hb:K b):Blk w' b l:=
 h.of_eq (k.block b hb)
theorem Blk.set6 {w:World}{b:Nat}{l:List Value}(h:Blk w b l)(v0 v1 v2 v3 v4 v5:Value)(hl:l.length=6):
  Blk ((((((w.setCell ⟨b,0,none⟩ v0).setCell ⟨b,1,none⟩ v1).setCell ⟨b,2,none⟩ v2).setCell ⟨b,3,none⟩ v3).setCell ⟨b,4,none⟩ v4).setCell ⟨b,5,none⟩ v5) b [v0,v1,v2,v3,v4,v5]:=by
 have:=(((((h.set 0 v0).set 1 v1).set 2 v2).set 3 v3).set 4 v4).set 5 v5
 match l,hl with
 | [a0,a1,a2,a3,a4,a5],_=>exact this
theorem Blk.set6_ne {w:World}{b b':Nat}{l:List Value}(h:Blk w b' l)(v0 v1 v2 v3 v4 v5:Value)(hb:b'≠b):
  Blk ((((((w.setCell ⟨b,0,none⟩ v0).setCell ⟨b,1,none⟩ v1).setCell ⟨b,2,none⟩ v2).setCell ⟨b,3,none⟩ v3).setCell ⟨b,4,none⟩ v4).setCell ⟨b,5,none⟩ v5) b' l:=
 (((((h.set_ne v0 hb).set_ne v1 hb).set_ne v2 hb).set_ne v3 hb).set_ne v4 hb).set_ne v5 hb
theorem Keeps.set6 {K:Nat→Prop}{w0 w:World}{b:Nat}(h:Keeps K w0 w)(v0 v1 v2 v3 v4 v5:Value)(hb:¬K b):
  Keeps K w0 ((((((w.setCell ⟨b,0,none⟩ v0).setCell ⟨b,1,none⟩ v1).setCell ⟨b,2,none⟩ v2).setCell ⟨b,3,none⟩ v3).setCell ⟨b,4,none⟩ v4).setCell ⟨b,5,none⟩ v5):=
 (((((h.setCell hb v0).setCell hb v1).setCell hb v2).setCell hb v3).setCell hb v4).setCell hb v5
def U32 (x:Int):Prop:=0≤x∧x≤4294967295
structure MemAt (w:World)(m c:Nat)(μ:MemS):Prop where
 obj:Blk w m [.slice (some ⟨c,0,none⟩) μ.cells.length μ.cells.length,.int .i64 μ.loads,.int .i64 μ.stores]
 cells:Blk w c (μ.cells.map (Value.int .u32))
 ne:m≠c
 small:μ.cells.length≤65536
 pos:0<μ.cells.length
 range:∀x∈μ.cells,U32 x
structure RunAt (w:World)(r m:Nat)(g:Value)(σ:RunS):Prop where
 obj:Blk w r [.pointer (some ⟨m,0,none⟩),g,.int .i64 σ.pos,.bool σ.inn,.bool σ.may,.bool σ.off,.bool σ.over,.int .i64 σ.err]
 log:w.ownsRow 0 32 1 g σ.log.length (σ.log.map (Value.int .u32))
 le:σ.pos≤σ.log.length
 room:σ.log.length+(if σ.may then 1 else 0)≤1099511627776
 range:∀x∈σ.log,U32 x
structure RM (w:World)(K:Nat→Prop)(r m c:Nat)(s:St):Prop where
 run:∃g,RunAt w r m g s.r∧∀k,g.ownBlock=some k→k≠r∧k≠m∧k≠c∧¬K k
 mem:MemAt w m c s.m
 rm:r≠m
 rc:r≠c
 kr:¬K r
 km:¬K m
 kc:¬K c
 lt:∀b,K b→b<w.heap.size
theorem bA {p:Prop}(h:p:=by
  repeat(first|with_reducible assumption|with_reducible exact Blk.new _ _ _|with_reducible refine Blk.drew ?_|with_reducible refine Blk.drewN ?_ _|with_reducible refine Blk.set_ne ?_ _ ?_|(with_reducible refine Blk.new' _ _ _ ?_;focus(simp;done))|with_reducible refine Blk.alloc ?_ _)
  all_goals(first|assumption|(simp;done)|(simp;omega))):p:=h
theorem kA {p:Prop}(h:p:=by
  repeat(first|with_reducible assumption|with_reducible exact Keeps.refl _ _|with_reducible refine Keeps.drew ?_|with_reducible refine Keeps.drewN ?_ _|with_reducible refine Keeps.setCell ?_ ?_ _|with_reducible refine Keeps.alloc ?_ ?_ _)
  all_goals(first|(simp;done)|(simp;omega)|(intro b hb;first|exact hb|omega|(simp;omega)|(simp only[World.size_alloc];omega)))):p:=h
theorem nA {p:Prop}(h:p:=by
  repeat(first|with_reducible assumption|with_reducible exact Blk.new _ _ _|with_reducible refine Blk.drew ?_|with_reducible refine Blk.drewN ?_ _|with_reducible refine BlkN.set1 ?_ _|with_reducible refine BlkN.set6 ?_ _ _ _ _ _ _|with_reducible exact BlkN.of1 (by with_reducible assumption)|with_reducible exact BlkN.of6 (by with_reducible assumption)|with_reducible refine BlkN.drew ?_|with_reducible refine BlkN.drewN ?_ _|with_reducible refine BlkN.set_ne ?_ _ ?_|with_reducible refine BlkN.alloc ?_ _|with_reducible refine Blk.set_ne ?_ _ ?_|(with_reducible refine Blk.new' _ _ _ ?_;focus(simp;done))|with_reducible refine Blk.alloc ?_ _)
  all_goals(first|assumption|(simp;done)|(simp;omega))):p:=h
theorem msA {p:Prop}(h:p:=by
  first|(simp[intOf];done)|(simp[intOf];omega)):p:=h
theorem Blk.c2 {w:World}{b:Nat}{v0 v1:Value}{l:List Value}(h:Blk w b (v0::v1::l)):w.cell? ⟨b,0,none⟩=some v0∧w.cell? ⟨b,1,none⟩=some v1:=⟨h.cell 0,h.cell 1⟩
theorem Blk.c3 {w:World}{b:Nat}{v0 v1 v2:Value}{l:List Value}(h:Blk w b (v0::v1::v2::l)):(d0_3 w b v0 v1 v2):=⟨h.cell 0,h.cell 1,h.cell 2⟩
theorem Blk.c4 {w:World}{b:Nat}{v0 v1 v2 v3:Value}{l:List Value}(h:Blk w b (v0::v1::v2::v3::l)):(d0_4 w b v0 v1 v2 v3):=⟨h.cell 0,h.cell 1,h.cell 2,h.cell 3⟩
theorem Blk.c6 {w:World}{b:Nat}{v0 v1 v2 v3 v4 v5:Value}{l:List Value}(h:Blk w b (v0::v1::v2::v3::v4::v5::l)):(d0_6 w b v0 v1 v2 v3 v4 v5):=⟨h.cell 0,h.cell 1,h.cell 2,h.cell 3,h.cell 4,h.cell 5⟩
theorem Blk.c9 {w:World}{b:Nat}{v0 v1 v2 v3 v4 v5 v6 v7 v8:Value}{l:List Value}(h:Blk w b (v0::v1::v2::v3::v4::v5::v6::v7::v8::l)):(d0_9 w b v0 v1 v2 v3 v4 v5 v6 v7 v8):=⟨h.cell 0,h.cell 1,h.cell 2,h.cell 3,h.cell 4,h.cell 5,h.cell 6,h.cell 7,h.cell 8⟩
theorem Blk.c10 {w:World}{b:Nat}{v0 v1 v2 v3 v4 v5 v6 v7 v8 v9:Value}{l:List Value}(h:Blk w b (v0::v1::v2::v3::v4::v5::v6::v7::v8::v9::l)):(d0_10 w b v0 v1 v2 v3 v4 v5 v6 v7 v8 v9):=⟨h.cell 0,h.cell 1,h.cell 2,h.cell 3,h.cell 4,h.cell 5,h.cell 6,h.cell 7,h.cell 8,h.cell 9⟩
theorem Blk.c15 {w:World}{b:Nat}{v0 v1 v2 v3 v4 v5 v6 v7 v8 v9 v10 v11 v12 v13 v14:Value}{l:List Value}(h:Blk w b (v0::v1::v2::v3::v4::v5::v6::v7::v8::v9::v10::v11::v12::v13::v14::l)):(d0_15 w b v0 v1 v2 v3 v4 v5 v6 v7 v8 v9 v10 v11 v12 v13 v14):=⟨h.cell 0,h.cell 1,h.cell 2,h.cell 3,h.cell 4,h.cell 5,h.cell 6,h.cell 7,h.cell 8,h.cell 9,h.cell 10,h.cell 11,h.cell 12,h.cell 13,h.cell 14⟩
end Go.Proofs.YtogdknnkhkjmcaaGreatDoor
