/- Lemmas on the programs that the statement reaches. -/
import Derived.Test.YtogdknnkhkjmcaaGreatDoorKWrK
namespace Go.Proofs.YtogdknnkhkjmcaaGreatDoor
open Go.RowKit
set_option linter.all false
def layK (s0 s1 s2 s3 book room:Int):Nat→List Value
 |0=>[.int .i64 0,.int .i64 0,.int .i64 0,.int .i64 0,.int .i64 0,.int .i64 0,.int .i64 0,.int .i64 0,.int .i64 0,.int .i64 0,.int .i64 0,.int .i64 0,.int .i64 (3),.int .i64 1,.int .i64 0]
 |1=>[.int .i64 (3),.int .i64 0,.int .i64 0,.int .i64 0,.int .i64 0,.int .i64 0,.int .i64 (s0*4),.int .i64 0,.int .i64 0,.int .i64 0,.int .i64 0,.int .i64 0,.int .i64 (3+s0*4),.int .i64 1,.int .i64 0]
 |2=>[.int .i64 (3),.int .i64 (3+s0*4),.int .i64 0,.int .i64 0,.int .i64 0,.int .i64 0,.int .i64 (s0*4),.int .i64 (s1*16),.int .i64 0,.int .i64 0,.int .i64 0,.int .i64 0,.int .i64 (3+s0*4+s1*16),.int .i64 1,.int .i64 0]
 |3=>[.int .i64 (3),.int .i64 (3+s0*4),.int .i64 (3+s0*4+s1*16),.int .i64 0,.int .i64 0,.int .i64 0,.int .i64 (s0*4),.int .i64 (s1*16),.int .i64 (s2*64),.int .i64 0,.int .i64 0,.int .i64 0,.int .i64 (3+s0*4+s1*16+s2*64),.int .i64 1,.int .i64 0]
 |4=>[.int .i64 (3),.int .i64 (3+s0*4),.int .i64 (3+s0*4+s1*16),.int .i64 (3+s0*4+s1*16+s2*64),.int .i64 0,.int .i64 0,.int .i64 (s0*4),.int .i64 (s1*16),.int .i64 (s2*64),.int .i64 (s3*256),.int .i64 0,.int .i64 0,.int .i64 (3+s0*4+s1*16+s2*64+s3*256),.int .i64 1,.int .i64 0]
 |5=>[.int .i64 (3),.int .i64 (3+s0*4),.int .i64 (3+s0*4+s1*16),.int .i64 (3+s0*4+s1*16+s2*64),.int .i64 (3+s0*4+s1*16+s2*64+s3*256),.int .i64 0,.int .i64 (s0*4),.int .i64 (s1*16),.int .i64 (s2*64),.int .i64 (s3*256),.int .i64 (book),.int .i64 0,.int .i64 (3+s0*4+s1*16+s2*64+s3*256+book),.int .i64 1,.int .i64 0]
 |_=>[.int .i64 (3),.int .i64 (3+s0*4),.int .i64 (3+s0*4+s1*16),.int .i64 (3+s0*4+s1*16+s2*64),.int .i64 (3+s0*4+s1*16+s2*64+s3*256),.int .i64 (3+s0*4+s1*16+s2*64+s3*256+book),.int .i64 (s0*4),.int .i64 (s1*16),.int .i64 (s2*64),.int .i64 (s3*256),.int .i64 (book),.int .i64 (room),.int .i64 (3+s0*4+s1*16+s2*64+s3*256+book+room),.int .i64 1,.int .i64 0]
def slotOf (b:Nat)(w:World):Nat:=match w.cell? ⟨b,13,none⟩with
 |some (.int _ x)=>x.toNat
 |_=>0
theorem nb2 (B:Nat):¬(fun b=>b<B) (B+1+1):=fun h=>by have h:B+1+1<B:=h;omega
theorem nb1 (B:Nat):¬(fun b=>b<B) (B+1):=fun h=>by have h:B+1<B:=h;omega
def SlotsAt (terms v:Int):Prop:=(v=1∨v=2∨v=4∨v=8∨v=16∨v=32∨v=64∨v=128)∨(v=256∧128≤terms)∨(v=512∧256≤terms)
theorem slots_next {terms v:Int}(h:SlotsAt terms v)(hv:v≤terms)(ht:terms≤256):SlotsAt terms (v*2):=by
 unfold SlotsAt at h
 rcases h with(rfl|rfl|rfl|rfl|rfl|rfl|rfl|rfl)|⟨rfl,h⟩|⟨rfl,h⟩
 ·exact Or.inl (by decide)
 ·exact Or.inl (by decide)
 ·exact Or.inl (by decide)
 ·exact Or.inl (by decide)
 ·exact Or.inl (by decide)
 ·exact Or.inl (by decide)
 ·exact Or.inl (by decide)
 ·exact Or.inr (Or.inl ⟨rfl,hv⟩)
 ·exact Or.inr (Or.inr ⟨rfl,hv⟩)
 ·omega
theorem slots_end {terms v:Int}(h:SlotsAt terms v)(hl:terms<v)(h0:64≤terms):(if 256≤terms then 512 else if 128≤terms then 256 else 128:Int)=v:=by
 unfold SlotsAt at h
 rcases h with(rfl|rfl|rfl|rfl|rfl|rfl|rfl|rfl)|⟨rfl,h⟩|⟨rfl,h⟩
 ·omega
 ·omega
 ·omega
 ·omega
 ·omega
 ·omega
 ·omega
 ·rw[if_neg (by omega),if_neg (by omega)]
 ·rw[if_neg (by omega),if_pos h]
 ·rw[if_pos h]
theorem slots_bd {terms v:Int}(h:SlotsAt terms v):1≤v∧v≤512:=by
 unfold SlotsAt at h
 rcases h with(rfl|rfl|rfl|rfl|rfl|rfl|rfl|rfl)|⟨rfl,h⟩|⟨rfl,h⟩<;>decide
set_option maxRecDepth 100000 in
set_option maxHeartbeats 8000000 in
theorem play_bad0 (docs terms s0 s1 s2 s3 book room:Int)(kk bb:Value)(d0:1≤docs)(d1:docs≤64)(t0:64≤terms)(t1:terms≤256)(k0:0≤book)(k1:book≤65536)(r0:0≤room)(r1:room≤65536)(q:¬(0≤s0∧s0≤512))(w:World)(hT:PTab w):
  Z 41 #[.agg #[I docs,I terms,I s0,I s1,I s2,I s3,I book,I room,kk,bb]] w fun e w'=>e= .returned (.tuple #[PlanM.zero.val,I 1])∧Keeps (· <w.heap.size) w w':=by
 have zz117:=PLift.up @c596;exact c594
set_option maxRecDepth 100000 in
set_option maxHeartbeats 8000000 in
theorem play_bad1 (docs terms s0 s1 s2 s3 book room:Int)(kk bb:Value)(d0:1≤docs)(d1:docs≤64)(t0:64≤terms)(t1:terms≤256)(k0:0≤book)(k1:book≤65536)(r0:0≤room)(r1:room≤65536)(o0:0≤s0∧s0≤512)(q:¬(0≤s1∧s1≤512))(w:World)(hT:PTab w):
  Z 41 #[.agg #[I docs,I terms,I s0,I s1,I s2,I s3,I book,I room,kk,bb]] w fun e w'=>e= .returned (.tuple #[PlanM.zero.val,I 1])∧Keeps (· <w.heap.size) w w':=by
 have zz117:=PLift.up @c597;exact c594
set_option maxRecDepth 100000 in
set_option maxHeartbeats 8000000 in
theorem play_bad2 (docs terms s0 s1 s2 s3 book room:Int)(kk bb:Value)(d0:1≤docs)(d1:docs≤64)(t0:64≤terms)(t1:terms≤256)(k0:0≤book)(k1:book≤65536)(r0:0≤room)(r1:room≤65536)(o0:0≤s0∧s0≤512)(o1:0≤s1∧s1≤512)(q:¬(0≤s2∧s2≤512))(w:World)(hT:PTab w):
  Z 41 #[.agg #[I docs,I terms,I s0,I s1,I s2,I s3,I book,I room,kk,bb]] w fun e w'=>e= .returned (.tuple #[PlanM.zero.val,I 1])∧Keeps (· <w.heap.size) w w':=by
 have zz112:=PLift.up @c564;exact c563
set_option maxRecDepth 100000 in
set_option maxHeartbeats 8000000 in
theorem play_bad3 (docs terms s0 s1 s2 s3 book room:Int)(kk bb:Value)(d0:1≤docs)(d1:docs≤64)(t0:64≤terms)(t1:terms≤256)(k0:0≤book)(k1:book≤65536)(r0:0≤room)(r1:room≤65536)(o0:0≤s0∧s0≤512)(o1:0≤s1∧s1≤512)(o2:0≤s2∧s2≤512)(q:¬(0≤s3∧s3≤512))(w:World)(hT:PTab w):
  Z 41 #[.agg #[I docs,I terms,I s0,I s1,I s2,I s3,I book,I room,kk,bb]] w fun e w'=>e= .returned (.tuple #[PlanM.zero.val,I 1])∧Keeps (· <w.heap.size) w w':=by
 have zz112:=PLift.up @c565;exact c563
end Go.Proofs.YtogdknnkhkjmcaaGreatDoor
