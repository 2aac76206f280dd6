/- The row of UpdateSame against the program: its forced cells, each apart (one alone wants some 5 GB of the kernel). -/
import Derived.Test.YtnfclcbhehbchaaGreatDoorRows
import Derived.JoinedCond
import Derived.KernelRfl
set_option autoImplicit false
namespace Go.Proofs.YtnfclcbhehbchaaGreatDoor

theorem usame_k1 : (Rows.updateSameRow.inPlace == Tryz.pinned.checked.prog.inPlace 4) = true := by kernel_rfl
theorem usame_k2 : (Rows.updateSameRow.unfollowed == Tryz.pinned.checked.prog.unfollowed 4) = true := by kernel_rfl
theorem usame_k3 : (Rows.updateSameRow.recurses == Tryz.pinned.checked.prog.recurses 4) = true := by kernel_rfl
theorem usame_k4 : (Rows.updateSameRow.named == Tryz.pinned.checked.prog.varsNamed 4) = true := by kernel_rfl
theorem usame_facts : joinedFacts Tryz.pinned.checked.prog 4 Tryz.f4 (OpenSpec.ofChange Rows.updateSameSpec).bare Rows.updateSameRow = true := by
  unfold joinedFacts
  rw [usame_k1, usame_k2, usame_k3, usame_k4]
  kernel_rfl
end Go.Proofs.YtnfclcbhehbchaaGreatDoor
