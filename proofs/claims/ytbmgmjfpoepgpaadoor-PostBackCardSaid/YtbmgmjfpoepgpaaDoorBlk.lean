/- Blocks of which only the length is known. -/
import Derived.Test.YtbmgmjfpoepgpaaDoorBase
namespace Go.Proofs.YtbmgmjfpoepgpaaDoor
open Go.RowKit

def BlkN (w : World) (b n : Nat) : Prop := ∃ l, Blk w b l ∧ l.length = n
theorem BlkN.of1 {w : World} {b : Nat} {v0 : Value} (h : Blk w b [v0]) : BlkN w b 1 := ⟨_, h, rfl⟩
theorem BlkN.of6 {w : World} {b : Nat} {v0 v1 v2 v3 v4 v5 : Value} (h : Blk w b [v0, v1, v2, v3, v4, v5]) : BlkN w b 6 := ⟨_, h, rfl⟩
theorem BlkN.set_ne {w : World} {b n : Nat} (h : BlkN w b n) {a : Addr} (v : Value) (hb : b ≠ a.block) : BlkN (w.setCell a v) b n := let ⟨l, h1, h2⟩ := h; ⟨l, h1.set_ne v hb, h2⟩
theorem BlkN.alloc {w : World} {b n : Nat} (h : BlkN w b n) (o : Obj) : BlkN (w.alloc o) b n := let ⟨l, h1, h2⟩ := h; ⟨l, h1.alloc o, h2⟩
theorem BlkN.drew {w : World} {b n : Nat} (h : BlkN w b n) : BlkN w.drew b n := h
theorem BlkN.drewN {w : World} {b n : Nat} (h : BlkN w b n) (k : Nat) : BlkN (w.drewN k) b n := let ⟨l, h1, h2⟩ := h; ⟨l, h1.drewN k, h2⟩
theorem BlkN.set1 {w : World} {b : Nat} (h : BlkN w b 1) (v : Value) : Blk (w.setCell ⟨b, 0, none⟩ v) b [v] := by
  obtain ⟨l, h1, h2⟩ := h
  match l, h2 with
  | [x], _ => exact h1.set1 v
theorem BlkN.set6 {w : World} {b : Nat} (h : BlkN w b 6) (v0 v1 v2 v3 v4 v5 : Value) :
    Blk ((((((w.setCell ⟨b, 0, none⟩ v0).setCell ⟨b, 1, none⟩ v1).setCell ⟨b, 2, none⟩ v2).setCell ⟨b, 3, none⟩ v3).setCell ⟨b, 4, none⟩ v4).setCell ⟨b, 5, none⟩ v5) b [v0, v1, v2, v3, v4, v5] := by
  obtain ⟨l, h1, h2⟩ := h
  exact h1.set6 v0 v1 v2 v3 v4 v5 h2
end Go.Proofs.YtbmgmjfpoepgpaaDoor
