/- The row of ValueSame against the program: its forced cells, each apart (one alone wants some 5 GB of the kernel). -/
import Derived.Test.YtplgbpcjbjaloaaGreatDoorRows
import Derived.JoinedCond
import Derived.KernelRfl
set_option autoImplicit false
namespace Go.Proofs.YtplgbpcjbjaloaaGreatDoor

theorem vsame_k1 : (Rows.valueSameRow.inPlace == Tryz.pinned.checked.prog.inPlace 3) = true := by kernel_rfl
theorem vsame_k2 : (Rows.valueSameRow.unfollowed == Tryz.pinned.checked.prog.unfollowed 3) = true := by kernel_rfl
theorem vsame_k3 : (Rows.valueSameRow.recurses == Tryz.pinned.checked.prog.recurses 3) = true := by kernel_rfl
theorem vsame_k4 : (Rows.valueSameRow.named == Tryz.pinned.checked.prog.varsNamed 3) = true := by kernel_rfl
theorem vsame_facts : joinedFacts Tryz.pinned.checked.prog 3 Tryz.f3 (OpenSpec.ofChange Rows.valueSameSpec).bare Rows.valueSameRow = true := by
  unfold joinedFacts
  rw [vsame_k1, vsame_k2, vsame_k3, vsame_k4]
  kernel_rfl
end Go.Proofs.YtplgbpcjbjaloaaGreatDoor
