/- The row of ScriptHex against the program: its forced cells, each apart (one alone wants some 5 GB of the kernel). -/
import Derived.Test.YtakocncckglboaaGreatDoorRows
import Derived.JoinedCond
import Derived.KernelRfl
set_option autoImplicit false
namespace Go.Proofs.YtakocncckglboaaGreatDoor

theorem shex_k1 : (Rows.scriptHexRow.inPlace == Tryz.pinned.checked.prog.inPlace 3) = true := by kernel_rfl
theorem shex_k2 : (Rows.scriptHexRow.unfollowed == Tryz.pinned.checked.prog.unfollowed 3) = true := by kernel_rfl
theorem shex_k3 : (Rows.scriptHexRow.recurses == Tryz.pinned.checked.prog.recurses 3) = true := by kernel_rfl
theorem shex_k4 : (Rows.scriptHexRow.named == Tryz.pinned.checked.prog.varsNamed 3) = true := by kernel_rfl
theorem shex_facts : joinedFacts Tryz.pinned.checked.prog 3 Tryz.f3 (OpenSpec.ofChange Rows.scriptHexSpec).bare Rows.scriptHexRow = true := by
  unfold joinedFacts
  rw [shex_k1, shex_k2, shex_k3, shex_k4]
  kernel_rfl
end Go.Proofs.YtakocncckglboaaGreatDoor
