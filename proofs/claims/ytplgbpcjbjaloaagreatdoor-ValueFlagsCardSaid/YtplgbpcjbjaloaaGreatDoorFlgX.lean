/- The row of ValueFlags against the program: its forced cells, each apart (one alone wants some 5 GB of the kernel). -/
import Derived.Test.YtplgbpcjbjaloaaGreatDoorRows
import Derived.JoinedCond
import Derived.KernelRfl
set_option autoImplicit false
namespace Go.Proofs.YtplgbpcjbjaloaaGreatDoor

theorem vflags_k1 : (Rows.valueFlagsRow.inPlace == Tryz.pinned.checked.prog.inPlace 4) = true := by kernel_rfl
theorem vflags_k2 : (Rows.valueFlagsRow.unfollowed == Tryz.pinned.checked.prog.unfollowed 4) = true := by kernel_rfl
theorem vflags_k3 : (Rows.valueFlagsRow.recurses == Tryz.pinned.checked.prog.recurses 4) = true := by kernel_rfl
theorem vflags_k4 : (Rows.valueFlagsRow.named == Tryz.pinned.checked.prog.varsNamed 4) = true := by kernel_rfl
theorem vflags_facts : joinedFacts Tryz.pinned.checked.prog 4 Tryz.f4 (OpenSpec.ofChange Rows.valueFlagsSpec).bare Rows.valueFlagsRow = true := by
  unfold joinedFacts
  rw [vflags_k1, vflags_k2, vflags_k3, vflags_k4]
  kernel_rfl
end Go.Proofs.YtplgbpcjbjaloaaGreatDoor
