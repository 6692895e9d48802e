/- Regions that draw their order: some operations are taken first under Su; the head goes under S, then the tail under Su. -/
import Derived.Test.YtogdknnkhkjmcaaGreatDoorAuto
import Derived.Test.YtogdknnkhkjmcaaGreatDoorAuto1
import Derived.Test.YtogdknnkhkjmcaaGreatDoorAuto2
import Derived.Test.YtogdknnkhkjmcaaGreatDoorAuto3
namespace Go.Proofs.YtogdknnkhkjmcaaGreatDoor
set_option linter.all false
section
variable {P:Program}{S Su:World→Prop}{md:Region.Mode}{Q:Exit→Act→World→Prop}
theorem min_unlisted {n:Nat}{listed:Array Bool}(h:¬∀i,i<n→listed.getD i true=true):∃i,i<n∧listed.getD i true=false∧∀j,j<i→listed.getD j true=true:=by
 have key:∀m,m≤n→(∀i,i<m→listed.getD i true=true)∨∃i,i<n∧listed.getD i true=false∧∀j,j<i→listed.getD j true=true:=by
  intro m
  induction m with
  |zero=>intro _;exact Or.inl fun i hi=>by omega
  |succ m ih=>
   intro hm
   rcases ih (by omega)with h1|h1
   ·cases hb:listed.getD m true
    ·exact Or.inr ⟨m,by omega,hb,h1⟩
    ·refine Or.inl fun i hi=>?_
     by_cases hm:i=m
     ·rw[hm];exact hb
     ·exact h1 i (by omega)
   ·exact Or.inr h1
 rcases key n (Nat.le_refl _)with h1|h1
 ·exact absurd h1 h
 ·exact h1
theorem getD_flip {listed:Array Bool}{i:Nat}(hi:i<listed.size)(h:listed.getD i true=true):listed.getD i false=true:=by
 simp[hi]at h ⊢;exact h
theorem wpAnyH_more {ops:Array Oper}:∀(f:Nat) (listed:Array Bool) (a:Act) (w:World),wpAnyH P md ops Q S f listed a w→wpAnyH P md ops Q S (f+1) listed a w
 |0,_,_,_,h=>⟨fun _=>h.2,fun i hi=>by rw[h.1]at hi;cases hi⟩
 |f+1,_,_,_,h=>⟨h.1,fun i hi=>wpOp_mono (fun a' w' h'=>⟨h'.1,wpAnyH_more f _ a' w' h'.2⟩) (h.2 i hi)⟩
theorem wpAnyH_mores {ops:Array Oper}(f:Nat)(listed:Array Bool)(a:Act)(w:World)(h:wpAnyH P md ops Q S f listed a w):∀k,wpAnyH P md ops Q S (k+f) listed a w
 |0=>by rw[Nat.zero_add];exact h
 |k+1=>by rw[show k+1+f=(k+f)+1 by omega];exact wpAnyH_more _ _ _ _ (wpAnyH_mores f listed a w h k)
def Behind (R:Act→World→Prop)(Q:Exit→Act→World→Prop):Exit→Act→World→Prop
 | .normal,a,w=>R a w
 | .ret,a,w=>Q .ret a w
 | .exit i,a,w=>Q (.exit i) a w
 | .goto i,a,w=>Q (.goto i) a w
 | .panic c,a,w=>Q (.panic c) a w
 | .outgrown,a,w=>Q .outgrown a w
theorem upon_behind {R:Act→World→Prop}{o:Oper}{a:Act}{K:Act→World→Prop}{r:Result Next}(h:o.upon P a K (Behind R Q) r):o.upon P a K Q r:=by
 cases r with
 |ok n w'=>cases n<;>exact h
 |halt x w'=>cases x<;>exact h
theorem wpOp_behind {l:List Oper}{n i:Nat}{R:Act→World→Prop}(hi:i<n)(hg:∀o,l[i]? =some o→∀j b,o.guard=some (j,b)→j<n){K:Act→World→Prop}{a:Act}{w:World}
  (h:wpOp P (l.take n).toArray (Behind R Q) i K a w):wpOp P l.toArray Q i K a w:=by
 have e:(l.take n).toArray[i]? =l.toArray[i]? :=by simp[List.getElem?_take,hi]
 unfold wpOp at*;rw[e]at h
 cases ho:l.toArray[i]? with
 |none=>rw[ho]at h;exact h
 |some o=>
  rw[ho]at h;simp only at h ⊢;have hw:Region.wanted o (yielded (l.take n).toArray a.tmps)=Region.wanted o (yielded l.toArray a.tmps):=by
   unfold Region.wanted
   cases hgd:o.guard with
   |none=>rfl
   |some x=>
    obtain⟨j,b⟩:=x;have hj:=hg o (by simpa using ho) j b hgd
    have e2:(l.take n).toArray[j]? =l.toArray[j]? :=by simp[List.getElem?_take,hj]
    simp only[yielded,e2]
  rw[hw]at h
  split
  ·rename_i hx
   rw[if_pos hx]at h
   rcases h with h|⟨h1,h2⟩
   ·exact Or.inl (upon_behind h)
   ·exact Or.inr ⟨h1,h2⟩
  ·rename_i hx
   rw[if_neg hx]at h;exact h
def headB (md:Region.Mode)(l:List Oper)(n:Nat)(pre:List Nat):Bool:=
 decide (n<l.length)&&Region.chainB md l.toArray n&&
 ((List.range n).all fun i=>pre.contains i||(List.range (n+1)).any fun j=>decide (i<j)&&Region.waitsFor md l.toArray j i)&&
 ((List.range n).all fun i=>match l[i]? with
  |some o=>(o.after.all fun e=> !Region.binds md e||decide (e.on<i))&&(match o.guard with|some (j,_)=>decide (j<n)|none=>true)
  |none=>true)
def preB (md:Region.Mode)(l:List Oper)(n:Nat)(pre:List Nat)(listed:Array Bool):Bool:=
 decide (listed.size=l.length)&&
 ((List.range l.length).all fun j=>match l[j]? with
  |some o=> !listed.getD j false||o.after.all fun e=> !Region.binds md e||listed.getD e.on false
  |none=>true)&&
 ((List.range l.length).all fun t=>decide (t<n)|| !listed.getD t true)&&pre.all fun i=>listed.getD i false
theorem waits_head {l:List Oper}{n:Nat}{pre:List Nat}{listed:Array Bool}(hB:headB md l n pre=true)(inv:HeadInv md l.toArray n listed)(hpre:∀i∈pre,listed.getD i false=true):
  ∀(d i:Nat),n-i=d→i<n→listed.getD i true=false→∀t,n≤t→t∉Region.ready md l.toArray listed:=by
 simp only[headB,Bool.and_eq_true,decide_eq_true_eq]at hB;obtain⟨⟨⟨hn,hc⟩,hs⟩,_⟩:=hB;intro d
 induction d using Nat.strongRecOn with
 |_ d ih=>
  intro i hd hi hun t ht hr;obtain⟨_,ot,hot,hall⟩:=mem_ready.1 hr;have htlt:t<l.toArray.size:=(Array.getElem?_eq_some_iff.1 hot).1
  by_cases htn:t=n
  ·exact c46
  ·have h1:=List.all_eq_true.1 hc t (List.mem_range.2 htlt);simp only[Bool.or_eq_true,decide_eq_true_eq]at h1
   rcases h1 with h1|h1
   ·omega
   ·obtain⟨o',ho',e,he,hb,hon⟩:=Region.waitsFor_spec h1;obtain rfl:o'=ot:=Option.some.inj (ho'.symm.trans hot);have h2:=hall e he hb;rw[hon,getD_both (inv.tail (t-1) (by omega) (by omega))]at h2
    cases h2
theorem head_anyH {l:List Oper}{n:Nat}{pre:List Nat}(hB:headB md l n pre=true)(hSS:∀w,S w→Su w):
  ∀(f:Nat) (L listed:Array Bool) (a:Act) (w:World),HeadInv md l.toArray n listed→(∀i∈pre,listed.getD i false=true)→L.size=n→(∀i,i<n→listed.getD i true=L.getD i true)→
   wpAnyH P md (l.take n).toArray (Behind (wpAnyH P md l.toArray Q Su (l.length-n) (Array.replicate n true++Array.replicate (l.length-n) false)) Q) S f L a w→wpAnyH P md l.toArray Q Su (f+(l.length-n)) listed a w:=by
 have hB':=hB;simp only[headB,Bool.and_eq_true,decide_eq_true_eq]at hB;have zz22:=@c218;exact c217
theorem wpAnyH_head {l:List Oper}{a:Act}{w:World}{listed:Array Bool}(n f:Nat)(pre:List Nat)(L:Array Bool)(hB:headB md l n pre=true)(hP:preB md l n pre listed=true)(hL:(decide (L.size=n)&&(List.range n).all fun i=>listed.getD i true==L.getD i true)=true)(hSS:∀w,S w→Su w)
  (h:wpAnyH P md (l.take n).toArray (Behind (wpAnyH P md l.toArray Q Su (l.length-n) (Array.replicate n true++Array.replicate (l.length-n) false)) Q) S f L a w):wpAnyH P md l.toArray Q Su (f+(l.length-n)) listed a w:=by
 simp only[preB,Bool.and_eq_true,decide_eq_true_eq]at hP;obtain⟨⟨⟨p1,p2⟩,p3⟩,p4⟩:=hP;simp only[Bool.and_eq_true,decide_eq_true_eq]at hL;refine head_anyH hB hSS f L listed a w ⟨by rw[p1];simp,fun j oj hj hl e he hb=>?_,fun t ht ht'=>?_⟩ (fun i hi=>List.all_eq_true.1 p4 i hi) hL.1 (fun i hi=>?_) h
 ·exact c100
 ·exact c135
 ·have h1:=List.all_eq_true.1 hL.2 i (List.mem_range.2 hi)
  simpa using h1
end
section
variable {P:Program}{S Su:World→Prop}{md:Region.Mode}{Q:Exit→Act→World→Prop}
def headC (md:Region.Mode)(l:List Oper)(n:Nat)(pre:List Nat):Bool:=
 decide (n<l.length)&&((List.range l.length).all fun t=>decide (t≤n)||(List.range l.length).any fun j=>decide (n≤j)&&Region.waitsFor md l.toArray t j)&&
 ((List.range n).all fun i=>pre.contains i||(List.range (n+1)).any fun j=>decide (i<j)&&Region.waitsFor md l.toArray j i)&&
 ((List.range n).all fun i=>match l[i]? with
  |some o=>(o.after.all fun e=> !Region.binds md e||decide (e.on<i))&&(match o.guard with|some (j,_)=>decide (j<n)|none=>true)
  |none=>true)
theorem waits_headC {l:List Oper}{n:Nat}{pre:List Nat}{listed:Array Bool}(hB:headC md l n pre=true)(inv:HeadInv md l.toArray n listed)(hpre:∀i∈pre,listed.getD i false=true):
  ∀(d i:Nat),n-i=d→i<n→listed.getD i true=false→∀t,n≤t→t∉Region.ready md l.toArray listed:=by
 simp only[headC,Bool.and_eq_true,decide_eq_true_eq]at hB;obtain⟨⟨⟨hn,hc⟩,hs⟩,_⟩:=hB;intro d
 induction d using Nat.strongRecOn with
 |_ d ih=>
  intro i hd hi hun t ht hr;obtain⟨_,ot,hot,hall⟩:=mem_ready.1 hr;have htlt:t<l.toArray.size:=(Array.getElem?_eq_some_iff.1 hot).1
  by_cases htn:t=n
  ·exact c46
  ·have h1:=List.all_eq_true.1 hc t (List.mem_range.2 (by simpa using htlt))
   simp only[Bool.or_eq_true,decide_eq_true_eq]at h1
   rcases h1 with h1|h1
   ·omega
   ·obtain⟨j,hj,hj2⟩:=List.any_eq_true.1 h1;simp only[Bool.and_eq_true,decide_eq_true_eq]at hj2;have hjl:=List.mem_range.1 hj;obtain⟨o',ho',e,he,hb,hon⟩:=Region.waitsFor_spec hj2.2;obtain rfl:o'=ot:=Option.some.inj (ho'.symm.trans hot);have h2:=hall e he hb;rw[hon,getD_both (inv.tail j hj2.1 (by simpa using hjl))]at h2
    cases h2
theorem headC_anyH {l:List Oper}{n:Nat}{pre:List Nat}(hB:headC md l n pre=true)(hSS:∀w,S w→Su w):
  ∀(f:Nat) (L listed:Array Bool) (a:Act) (w:World),HeadInv md l.toArray n listed→(∀i∈pre,listed.getD i false=true)→L.size=n→(∀i,i<n→listed.getD i true=L.getD i true)→
   wpAnyH P md (l.take n).toArray (Behind (wpAnyH P md l.toArray Q Su (l.length-n) (Array.replicate n true++Array.replicate (l.length-n) false)) Q) S f L a w→wpAnyH P md l.toArray Q Su (f+(l.length-n)) listed a w:=by
 have hB':=hB;simp only[headC,Bool.and_eq_true,decide_eq_true_eq]at hB;have zz22:=@c219;exact c217
theorem wpAnyH_headC {l:List Oper}{a:Act}{w:World}{listed:Array Bool}(n f:Nat)(pre:List Nat)(L:Array Bool)(hB:headC md l n pre=true)(hP:preB md l n pre listed=true)(hL:(decide (L.size=n)&&(List.range n).all fun i=>listed.getD i true==L.getD i true)=true)(hSS:∀w,S w→Su w)
  (h:wpAnyH P md (l.take n).toArray (Behind (wpAnyH P md l.toArray Q Su (l.length-n) (Array.replicate n true++Array.replicate (l.length-n) false)) Q) S f L a w):wpAnyH P md l.toArray Q Su (f+(l.length-n)) listed a w:=by
 simp only[preB,Bool.and_eq_true,decide_eq_true_eq]at hP;obtain⟨⟨⟨p1,p2⟩,p3⟩,p4⟩:=hP;simp only[Bool.and_eq_true,decide_eq_true_eq]at hL;refine headC_anyH hB hSS f L listed a w ⟨by rw[p1];simp,fun j oj hj hl e he hb=>?_,fun t ht ht'=>?_⟩ (fun i hi=>List.all_eq_true.1 p4 i hi) hL.1 (fun i hi=>?_) h
 ·exact c100
 ·exact c135
 ·have h1:=List.all_eq_true.1 hL.2 i (List.mem_range.2 hi)
  simpa using h1
end
end Go.Proofs.YtogdknnkhkjmcaaGreatDoor
