/- Plain: how many accesses the parts that read a sealed segment make at most, whatever is read. -/
import Derived.Test.YtbmgmjfpoepgpaaFindP
import Derived.Test.YtbmgmjfpoepgpaaPlainC
namespace Go.Proofs.Ytbmgmjfpoepgpaa
open Go.RowKit

namespace Tree
/-- loads alone; whatever is read, the end is so with the count -/
def Cost {α : Type} (Q : α → Nat → Prop) : Tree α → Nat → Prop
  | ret x, c => Q x c
  | load _ k, c => ∀ v, Cost Q (k v) (c + 1)
  | store _ _ _, _ => False
  | off k, c => ∀ o, Cost Q (k o) c
theorem cost_mono {α : Type} {Q Q' : α → Nat → Prop} (h : ∀ x c, Q x c → Q' x c) (t : Tree α) : ∀ c, t.Cost Q c → t.Cost Q' c := by
  induction t with
  | ret x => exact fun c hc => h x c hc
  | load a k ih => exact fun c hc v => ih v _ (hc v)
  | store a v k ih => exact fun c hc => hc
  | off k ih => exact fun c hc o => ih o _ (hc o)
theorem cost_bind {α β : Type} {Q : β → Nat → Prop} (t : Tree α) (f : α → Tree β) : ∀ c, t.Cost (fun x c' => (f x).Cost Q c') c → (t.bind f).Cost Q c := by
  induction t with
  | ret x => exact fun c hc => hc
  | load a k ih => exact fun c hc v => ih v _ (hc v)
  | store a v k ih => exact fun c hc => hc.elim
  | off k ih => exact fun c hc o => ih o _ (hc o)
theorem cost_ideal {α : Type} {Q : α → Nat → Prop} (t : Tree α) : ∀ (c : Nat) (cs : List Int) (x : α) (cs' : List Int) (n : Nat), t.Cost Q c → t.ideal cs = some (x, cs', n) → Q x (c + n) ∧ cs' = cs := by
  induction t with
  | ret x =>
    intro c cs y cs' n hc hi
    injection hi with hi; injection hi with h1 h2; injection h2 with h2 h3
    subst h1 h2 h3
    exact ⟨hc, rfl⟩
  | load a k ih =>
    intro c cs y cs' n hc hi
    unfold ideal at hi
    split at hi
    · obtain ⟨z, hz, e⟩ := Option.map_eq_some_iff.1 hi
      injection e with h1 h2; injection h2 with h2 h3
      obtain ⟨q1, q2⟩ := ih _ _ _ _ _ _ (hc _) hz
      subst h1 h2 h3
      exact ⟨by rw [show c + (z.2.2 + 1) = c + 1 + z.2.2 by omega]; exact q1, q2⟩
    · cases hi
  | store a v k ih => exact fun c cs y cs' n hc => hc.elim
  | off k ih => exact fun c cs y cs' n hc hi => ih false _ _ _ _ _ (hc false) hi
theorem cost_norm {α : Type} {Q : α → Nat → Prop} (t : Tree α) : ∀ c, t.Cost Q c → t.norm.Cost Q c := by
  induction t with
  | ret x => exact fun c hc => hc
  | load a k ih => exact fun c hc => hc
  | store a v k ih => exact fun c hc => hc
  | off k ih => exact fun c hc => ih false _ (hc false)
theorem cost_le {α : Type} {Q : α → Nat → Prop} {N : Nat} (hQ : ∀ x c, Q x c → c ≤ N) (t : Tree α) : ∀ c, t.Cost Q c → c ≤ N := by
  induction t with
  | ret x => exact fun c hc => hQ x c hc
  | load a k ih => exact fun c hc => by have := ih 0 _ (hc 0); omega
  | store a v k ih => exact fun c hc => hc.elim
  | off k ih => exact fun c hc => ih false _ (hc false)
end Tree

/-- a reader that goes on from the beginning: so many loads as cells were begun -/
def CInv (B m : Nat) (x : RdM) (c : Nat) : Prop := x.cell = (if x.at' = 0 then -1 else (((x.at' - 1) / 4 : Nat) : Int)) ∧ c = B + (x.at' + 3) / 4 ∧ x.at' ≤ m
theorem CInv.mono {B m m' : Nat} {x : RdM} {c : Nat} (h : CInv B m x c) (hm : m ≤ m') : CInv B m' x c := ⟨h.1, h.2.1, Nat.le_trans h.2.2 hm⟩
theorem cost_next {B m : Nat} {x : RdM} {c : Nat} (h : CInv B m x c) : (nextT x).Cost (fun y c' => CInv B (m + 1) y.2 c') c := by
  obtain ⟨h1, h2, h3⟩ := h
  unfold nextT
  split
  · rename_i e
    rw [h1] at e
    refine ⟨?_, ?_, by simp; omega⟩
    · simp only [Nat.add_sub_cancel, h1]
      rw [if_neg (Nat.succ_ne_zero _)]
      split at e <;> rename_i e0
      · omega
      · rw [if_neg e0]; omega
    · show c = B + (x.at' + 1 + 3) / 4
      split at e <;> omega
  · rename_i e
    rw [h1] at e
    intro v
    refine ⟨?_, ?_, by simp; omega⟩
    · simp only [Nat.add_sub_cancel]
      rw [if_neg (Nat.succ_ne_zero _)]
    · show c + 1 = B + (x.at' + 1 + 3) / 4
      split at e <;> omega
theorem cost_num {B : Nat} : ∀ (f i : Nat) (n : Int) (m : Nat) (x : RdM) (c : Nat), CInv B m x c → (numL f i n x).Cost (fun y c' => CInv B (m + f) y.2 c') c
  | 0, _, _, _, _, _, h => h
  | f + 1, i, n, m, x, c, h => by
    unfold numL
    refine Tree.cost_bind _ _ _ (Tree.cost_mono (fun y c' hy => ?_) _ _ (cost_next h))
    split
    · exact hy.mono (by omega)
    · exact Tree.cost_mono (fun y c' hy => hy.mono (by omega)) _ _ (cost_num f (i + 1) _ _ _ _ hy)
theorem cost_pos {B : Nat} : ∀ (k : Nat) (a : Int) (acc : List Int) (m : Nat) (x : RdM) (c : Nat), CInv B m x c → (posL k a acc x).Cost (fun y c' => CInv B (m + 5 * k) y.2 c') c
  | 0, _, _, _, _, _, h => h
  | k + 1, a, acc, m, x, c, h => by
    unfold posL
    refine Tree.cost_bind _ _ _ (Tree.cost_mono (fun y c' hy => ?_) _ _ (cost_num 5 0 0 _ _ _ h))
    exact Tree.cost_mono (fun y c' hy => hy.mono (by omega)) _ _ (cost_pos k _ _ _ _ _ hy)
theorem cost_ent {B : Nat} (most : Int) : ∀ (f : Nat) (doc : Int) (out : List EntM) (m : Nat) (x : RdM) (c : Nat), CInv B m x c → (entL most f doc out x).Cost (fun y c' => CInv B (m + 1290 * f) y.2.1 c') c
  | 0, _, _, _, _, _, h => h
  | f + 1, doc, out, m, x, c, h => by
    unfold entL
    refine Tree.cost_bind _ _ _ (Tree.cost_mono (fun y c1 hy => ?_) _ _ (cost_num 5 0 0 _ _ _ h))
    refine Tree.cost_bind _ _ _ (Tree.cost_mono (fun z c2 hz => ?_) _ _ (cost_num 5 0 0 _ _ _ hy))
    refine Tree.cost_bind _ _ _ (Tree.cost_mono (fun p c3 hp => ?_) _ _ (cost_pos _ _ _ _ _ _ hz))
    have hk : (min z.1 256).toNat ≤ 256 := by omega
    intro o
    dsimp only
    split
    · exact CInv.mono hp (by omega)
    · exact Tree.cost_mono (fun y c' hy => hy.mono (by omega)) _ _ (cost_ent most f _ _ _ _ _ hp)
theorem cost_blk (list most : Int) (n : Nat) : ∀ (f b : Nat) (out : List EntM) (B m : Nat) (x : RdM) (c : Nat), CInv B m x c → (blkL list most n f b out x).Cost (fun _ c' => c' ≤ B + f + (m + 5160 * f + 3) / 4) c
  | 0, _, _, B, m, x, c, h => by
    have := h.2.1; have := h.2.2
    show c ≤ _
    omega
  | f + 1, b, out, B, m, x, c, h => by
    unfold blkL
    intro v
    have h1 : CInv (B + 1) m x (c + 1) := ⟨h.1, by have := h.2.1; omega, h.2.2⟩
    refine Tree.cost_bind _ _ _ (Tree.cost_mono (fun y c1 hy => ?_) _ _ (cost_ent most _ _ _ _ _ _ h1))
    have hm : min 4 (n - 4 * b) ≤ 4 := by omega
    have h2 := hy.2.1
    have h3 := hy.2.2
    split
    · show c1 ≤ _
      omega
    · split
      · show c1 ≤ _
        omega
      · refine Tree.cost_mono (fun y c' hy => ?_) _ _ (cost_blk list most n f (b + 1) _ _ _ _ _ hy)
        omega
theorem cost_list (list most : Int) (c : Nat) : (listT list most).Cost (fun _ c' => c' ≤ c + 20660) c := by
  unfold listT
  intro n
  dsimp only
  split
  · show c + 1 ≤ _
    omega
  · refine Tree.cost_mono (fun y c' hy => ?_) _ _ (cost_blk list most n.toNat ((n.toNat + 3) / 4) 0 [] (c + 1) 0 _ _ ⟨rfl, by show c + 1 = c + 1 + (0 + 3) / 4; omega, Nat.le_refl _⟩)
    have : (n.toNat + 3) / 4 ≤ 16 := by omega
    omega
theorem cost_loads (a : Int) : ∀ (f k c : Nat), (loadsD a f k).Cost (fun _ c' => c' = c + f) c
  | 0, _, _ => rfl
  | f + 1, k, c => by
    unfold loadsD
    intro v
    refine Tree.cost_bind _ _ _ (Tree.cost_mono (fun y c' hy => ?_) _ _ (cost_loads a f (k + 1) (c + 1)))
    show c' = _
    omega
theorem cost_read (a : Int) (c : Nat) : (readD a).Cost (fun _ c' => c' ≤ c + 6) c := by
  unfold readD
  intro n o
  dsimp only
  split
  · show c + 1 ≤ _
    omega
  · rename_i h
    have : (n.toNat + 3) / 4 ≤ 5 := by have : ¬ 17 < n := fun e => h (Or.inr e); omega
    refine Tree.cost_bind _ _ _ (Tree.cost_mono (fun y c' hy => ?_) _ _ (cost_loads a _ _ _))
    show c' ≤ _
    omega
theorem cost_termL (a docs : Int) (key : ByteArray) : ∀ (f : Nat) (lo hi : Int) (c : Nat), (termL a docs key f lo hi).Cost (fun _ c' => c' ≤ c + 8 * f) c
  | 0, _, _, c => Nat.le_refl _
  | f + 1, lo, hi, c => by
    unfold termL
    split
    · intro v
      refine Tree.cost_bind _ _ _ (Tree.cost_mono (fun y c1 hy => ?_) _ _ (cost_read v _))
      intro o
      dsimp only
      split
      · show c1 ≤ _
        omega
      · split
        · intro u
          show c1 + 1 ≤ _
          omega
        · split
          · exact Tree.cost_mono (fun y c' hy => by omega) _ _ (cost_termL a docs key f _ _ _)
          · exact Tree.cost_mono (fun y c' hy => by omega) _ _ (cost_termL a docs key f _ _ _)
    · show c ≤ _
      omega
theorem cost_term (a : Int) (key : ByteArray) (c : Nat) : (termT a key).Cost (fun _ c' => c' ≤ c + 2060) c := by
  unfold termT
  intro d hi
  dsimp only
  split
  · show c + 1 + 1 ≤ _
    omega
  · exact Tree.cost_mono (fun y c' hy => by omega) _ _ (cost_termL a _ key 257 0 hi _)
theorem cost_docs (a : Int) (c : Nat) : (docsT a).Cost (fun _ c' => c' ≤ c + 1) c := fun _ => Nat.le_refl _
end Go.Proofs.Ytbmgmjfpoepgpaa
