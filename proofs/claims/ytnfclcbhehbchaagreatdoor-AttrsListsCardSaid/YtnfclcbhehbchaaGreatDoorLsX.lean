/- The row of AttrsLists against the program: its forced cells, each apart (one alone wants some 5 GB of the kernel). -/
import Derived.Test.YtnfclcbhehbchaaGreatDoorRows
import Derived.JoinedCond
import Derived.KernelRfl
set_option autoImplicit false
namespace Go.Proofs.YtnfclcbhehbchaaGreatDoor

theorem alists_k1 : (Rows.attrsListsRow.inPlace == Tryz.pinned.checked.prog.inPlace 3) = true := by kernel_rfl
theorem alists_k2 : (Rows.attrsListsRow.unfollowed == Tryz.pinned.checked.prog.unfollowed 3) = true := by kernel_rfl
theorem alists_k3 : (Rows.attrsListsRow.recurses == Tryz.pinned.checked.prog.recurses 3) = true := by kernel_rfl
theorem alists_k4 : (Rows.attrsListsRow.named == Tryz.pinned.checked.prog.varsNamed 3) = true := by kernel_rfl
theorem alists_facts : joinedFacts Tryz.pinned.checked.prog 3 Tryz.f3 (OpenSpec.ofChange Rows.attrsListsSpec).bare Rows.attrsListsRow = true := by
  unfold joinedFacts
  rw [alists_k1, alists_k2, alists_k3, alists_k4]
  kernel_rfl
end Go.Proofs.YtnfclcbhehbchaaGreatDoor
