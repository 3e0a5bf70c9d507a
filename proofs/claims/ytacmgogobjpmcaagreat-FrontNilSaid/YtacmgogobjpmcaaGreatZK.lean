/- FrontNil: whatever the setting, the bytes and the time: without a Keep, or a setting, there is no front, and a nil front does nothing; no conditions. -/
import Derived.Test.YtacmgogobjpmcaaGreatZJ
namespace Go.Proofs.YtacmgogobjpmcaaGreat
open Go.ChangeShapes Go.WideShapes Go.ChangeAt Go.RowKit

set_option maxHeartbeats 10000000 in
theorem frontNil_named : Tryz.pinned.checked.prog.funcNamed Rows.frontNilRow.func = some 4 := by kernel_rfl
set_option maxHeartbeats 10000000 in
theorem frontNil_inst : Tryz.f4.isInstance Tryz.pinned.checked.prog Rows.frontNilRow.origin Rows.frontNilRow.targs := of_decide_eq_true (by kernel_rfl)
set_option maxHeartbeats 10000000 in
theorem frontNil_wrap : Tryz.f4.isWrapper Tryz.pinned.checked.prog Rows.frontNilRow.wrapper Rows.frontNilRow.mainSum := by
  unfold Func.isWrapper; first | (rw [if_pos (by decide +kernel)]; kernel_rfl) | (rw [if_neg (by decide +kernel)]; exact ⟨rfl, rfl⟩)
set_option maxHeartbeats 10000000 in
theorem frontNil_holds : Rows.FrontNilSaid :=
  OpenClaim.holds_of_wide 4 Tryz.f4 rfl rfl rfl rfl rfl rfl rfl ⟨rfl, rfl, rfl, rfl, rfl⟩ rfl rfl rfl rfl rfl frontNil_named Tryz.func4 frontNil_closed
    frontNil_inst frontNil_wrap (fun os started H enc _ => frontNil_lifted os started H enc)
#print axioms frontNil_holds
end Go.Proofs.YtacmgogobjpmcaaGreat
