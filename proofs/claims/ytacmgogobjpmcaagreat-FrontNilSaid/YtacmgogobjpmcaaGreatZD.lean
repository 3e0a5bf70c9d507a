/- Contracts: the program's wname.New, Name of one label. -/
import Derived.Test.YtacmgogobjpmcaaGreatZC
import Derived.Maps.Own
import Derived.Maps.OwnSet
namespace Go.Proofs.YtacmgogobjpmcaaGreat
open Go.RowKit Go.Maps

set_option maxRecDepth 20000 in
theorem pNew_any (w : World) :
    Calls Tryz.prog 232 #[] w fun e w' => e = .returned (.pointer (some ⟨w.heap.size + 1, 0, none⟩)) ∧ PWr w' (w.heap.size + 1) (w.heap.size + 1) [] (.map (some w.heap.size)) ∧ w'.heap[w.heap.size]? = some (.map #[] 0) ∧ Below w.heap.size w w' := by
  have hmm := @run_makeMap Tryz.prog
  go_enter Tryz.func232, Tryz.ntmps232
  go_wp2
  go_ret
  refine ⟨rfl, ⟨none, 0, Blk.new' _ _ _ (by simp), Nat.le_refl _, World.ownsRow_nil _ _ _ _⟩, ?_, ((Below.refl _ _).alloc (Nat.le_refl _) _).alloc (by simp) _⟩
  have h1 := Below.heap_alloc (w.alloc (.map #[] 0)) (.cells #[.slice none 0 0, .map (some w.heap.size)] 389) w.heap.size (by simp)
  exact h1.trans (heap_alloc_new w _)

theorem skey : Keyed Tryz.prog 9 := string_keyed Tryz.underlying9
theorem zint (w : World) : (zeroValue 3).run Tryz.prog w = .ok (.int .i64 0) w := by kernel_rfl
theorem map0 {H : Type} {w : World} {b : Nat} (h : w.heap[b]? = some (.map #[] 0)) : w.ownsMap (H := H) Tryz.prog 9 (plainElem Tryz.prog 3) b 0 (.map []) :=
  ⟨#[], 0, h, ⟨by simp, Go.MapKept.stamped_empty 0, by simp⟩, Nat.le_refl _, rfl⟩
end Go.Proofs.YtacmgogobjpmcaaGreat
