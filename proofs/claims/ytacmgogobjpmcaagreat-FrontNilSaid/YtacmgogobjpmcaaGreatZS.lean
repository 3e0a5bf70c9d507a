/- Words for memory: a whole struct stored into, or loaded out of, a block that is known whole. No program here. -/
import Derived.Test.YtacmgogobjpmcaaGreatA
import Derived.Deep.MidRow
namespace Go.Proofs.YtacmgogobjpmcaaGreat
open Go.RowKit

/-- cells of a block, some of them written -/
def sets (cur : Array Value) : Nat → List Value → Array Value
  | _, [] => cur
  | o, v :: r => sets (cur.setIfInBounds o v) (o + 1) r
section
variable {P : Program} {w w' : World} {g : Nat} {t : TypeId} {cs : Array Value}
theorem sets_size (cur : Array Value) (o : Nat) (vs : List Value) : (sets cur o vs).size = cur.size := by
  induction vs generalizing cur o with
  | nil => rfl
  | cons v r ih => rw [sets, ih]; simp
theorem Blk.sets_ (h : Blk w g t cs) (o : Nat) (vs : List Value) : Blk (w.setCells g o vs) g t (sets cs o vs) := by
  induction vs generalizing w cs o with
  | nil => exact h
  | cons v r ih => exact ih (h.set_ o v) (o + 1)
theorem setCells_grown (w : World) (g o : Nat) (vs : List Value) : w.grownBy (w.setCells g o vs) (some g) ∧ (w.setCells g o vs).heap.size = w.heap.size := by
  induction vs generalizing w o with
  | nil => exact ⟨World.grownBy.refl w _, rfl⟩
  | cons v r ih =>
    obtain ⟨k, e⟩ := ih (w.setCell ⟨g, o, none⟩ v) (o + 1)
    have hs : (w.setCell ⟨g, o, none⟩ v).heap.size = w.heap.size := by simp [World.setCell]
    refine ⟨⟨k.os, k.tape, k.output, Nat.le_of_eq (e.trans hs).symm, fun j hj hne => (k.block j (by omega) hne).trans (Below.heap_setCell _ _ _ _ (by intro e; exact hne (by rw [e])))⟩, e.trans hs⟩
theorem there_of_blk (h : Blk w g t cs) (o n : Nat) (hn : o + n ≤ cs.size) : w.there g o n := fun j hj => by
  refine ⟨?_, h.frozen _⟩
  rw [h.cell, Array.getElem?_eq_getElem (by omega)]; rfl
/-- 'x.f = struct', as an equation -/
theorem run_sto (h : Blk w g t cs) (o : Nat) (ty : TypeId) (cells : Array Value) (hn : o + cells.size ≤ cs.size) (hi : (P.info? ty).map (·.size) = some cells.size) (h1 : cells.all (·.oneCell') = true) :
    ∃ w', (Instr.storeAt ty (.pointer (some ⟨g, o, none⟩)) (.agg cells)).run P w = .ok () w' ∧ Blk w' g t (sets cs o cells.toList) ∧ w.grownBy w' (some g) ∧ w'.heap.size = w.heap.size :=
  ⟨_, run_storeAt_mid w g o ty cells (there_of_blk h o _ hn) hi h1, h.sets_ o _, (setCells_grown w g o _).1, (setCells_grown w g o _).2⟩
/-- a store's run, kept from the walk till it stands at it -/
structure StoAt (P : Program) (w : World) (g o : Nat) (ty : TypeId) (cells : Array Value) (w' : World) : Prop where
  run : (Instr.storeAt ty (.pointer (some ⟨g, o, none⟩)) (.agg cells)).run P w = .ok () w'
theorem StoAt.go {g o : Nat} {ty : TypeId} {cells : Array Value} (h : StoAt P w g o ty cells w') : (Instr.storeAt ty (.pointer (some ⟨g, o, none⟩)) (.agg cells)).run P w = .ok () w' := h.run
theorem wpList_sto {ops : Array Oper} {rest : List Oper} {op : Oper} {a : Act} {Q : Exit → Act → World → Prop} (hgd : op.guard = none) (ty : TypeId) (x y : Operand) (ho : op.op = .store ty x y)
    (h : Blk w g t cs) (o : Nat) (cells : Array Value) (hx : a.eval x = .pointer (some ⟨g, o, none⟩)) (hy : a.eval y = .agg cells) (hn : o + cells.size ≤ cs.size) (hi : (P.info? ty).map (·.size) = some cells.size) (h1 : cells.all (·.oneCell') = true)
    (hK : ∀ w', Blk w' g t (sets cs o cells.toList) → w.grownBy w' (some g) → w'.heap.size = w.heap.size → wpList P ops Q rest (a.put op.dst undef) w') : wpList P ops Q (op :: rest) a w :=
  wpList_store_mid hgd ty x y ho g o cells hx hy (there_of_blk h o _ hn) hi h1 (hK _ (h.sets_ o _) (setCells_grown w g o _).1 (setCells_grown w g o _).2)
end
end Go.Proofs.YtacmgogobjpmcaaGreat
