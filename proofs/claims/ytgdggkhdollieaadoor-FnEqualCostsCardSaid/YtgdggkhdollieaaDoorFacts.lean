/-
  Facts of the program, the same for every law: the word of its cut, read once.
-/
import Derived.Test.YtgdggkhdollieaaDoorRows
import Derived.KernelRfl
namespace Go.Proofs.YtgdggkhdollieaaDoor
set_option maxRecDepth 100000
theorem mayEnter_ok : Tryd.pinned.checked.prog.mayEnter = true := by kernel_rfl
theorem liftsFinal_no : Tryd.pinned.checked.prog.liftsFinal = false := by kernel_rfl
theorem make_cut : Tryd.pinned.checked.prog.make = some .cut := by kernel_rfl
end Go.Proofs.YtgdggkhdollieaaDoor
