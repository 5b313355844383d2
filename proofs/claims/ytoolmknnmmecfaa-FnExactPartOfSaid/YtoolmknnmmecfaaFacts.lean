/-
  Facts of the program, the same for every law: the word of its cut, read once.
-/
import Derived.Test.YtoolmknnmmecfaaRows
import Derived.KernelRfl
namespace Go.Proofs.Ytoolmknnmmecfaa
theorem mayEnter_gen {P : Program} {l : List Char} {ws : List (List Char)} (h : P.initOrder.toList = l) (h2 : wordsSigns l = ws) (h3 : (behindMainWord ws).head? = some "cut".toList)
    (hd : P.doorRows = []) (hl : P.laysLater = false) (hb : P.bearsReflect = false) : P.mayEnter = true := by
  unfold Program.mayEnter Program.doorFits
  rw [h, h2, hd, hl, hb]
  cases hh : behindMainWord ws with
  | nil => rw [hh] at h3; cases h3
  | cons c rest =>
    rw [hh] at h3
    obtain rfl : c = "cut".toList := by simpa using h3
    have e : (stripLifts liftWords ("cut".toList :: rest)) = ([], "cut".toList :: rest) := by
      simp only [liftWords, stripLifts]
      rfl
    simp only [e]
    rfl
theorem liftsFinal_gen {P : Program} {l : List Char} {ws : List (List Char)} (h : P.initOrder.toList = l) (h2 : wordsSigns l = ws) (h3 : (behindMainWord ws).head? = some "cut".toList) :
    P.liftsFinal = false := by
  unfold Program.liftsFinal Program.headLifts
  rw [h, h2]
  cases hh : behindMainWord ws with
  | nil => rw [hh] at h3; cases h3
  | cons c rest =>
    rw [hh] at h3
    obtain rfl : c = "cut".toList := by simpa using h3
    have e : (stripLifts liftWords ("cut".toList :: rest)) = ([], "cut".toList :: rest) := by
      simp only [liftWords, stripLifts]
      rfl
    simp only [e]
    rfl
theorem make_gen {P : Program} {l : List Char} {ws : List (List Char)} (h : P.initOrder.toList = l) (h2 : wordsSigns l = ws) (h3 : (behindMainWord ws).head? = some "cut".toList) :
    P.make = some .cut := by
  unfold Program.make
  rw [h, h2]
  cases hh : behindMainWord ws with
  | nil => rw [hh] at h3; cases h3
  | cons c rest =>
    rw [hh] at h3
    obtain rfl : c = "cut".toList := by simpa using h3
    rfl
set_option maxRecDepth 100000
theorem orderList : Try.pinned.checked.prog.initOrder.toList = (['h', 'a', 'r', 'n', 'e', 's', 's', ' ', 'c', '8', '3', 'c', '0', '0', '3', 'b', '2', '3', '2', '2', 'f', 'f', '9', '0', 'b', 'd', '0', 'f', 'f', 'b', 'a', 'c', '3', 'f', 'c', 'f', '6', '9', '9', '4', '6', 'd', '9', '2', 'b', 'b', '6', '8', '9', 'f', '7', 'f', '7', 'd', '5', '8', 'f', '4', 'c', 'a', '3', 'e', 'c', '6', '2', '2', '3', '6', '6', '9', '4', '1', ' ', 'c', 'u', 't', ' ', 'a', 't', ' ', 'l', 'o', 'o', 'p', '.', 'e', 'x', 'a', 'm', 'p', 'l', 'e', '/', 'g', 'r', 'a', 'p', 'h', 'c', 'l', 'u', 's', 't', 'e', 'r', '/', 'l', 'a', 'w', 's', '.', 'F', 'n', 'E', 'x', 'a', 'c', 't', 'G', 'r', 'a', 'p', 'h', 'V', 'a', 'l', 'i', 'd', ' ', 'l', 'o', 'o', 'p', '.', 'e', 'x', 'a', 'm', 'p', 'l', 'e', '/', 'g', 'r', 'a', 'p', 'h', 'c', 'l', 'u', 's', 't', 'e', 'r', '/', 'l', 'a', 'w', 's', '.', 'F', 'n', 'E', 'x', 'a', 'c', 't', 'W', 'e', 'i', 'g', 'h', 't', 'O', 'f', ' ', 'l', 'o', 'o', 'p', '.', 'e', 'x', 'a', 'm', 'p', 'l', 'e', '/', 'g', 'r', 'a', 'p', 'h', 'c', 'l', 'u', 's', 't', 'e', 'r', '/', 'l', 'a', 'w', 's', '.', 'F', 'n', 'G', 'r', 'a', 'p', 'h', 'V', 'a', 'l', 'i', 'd', ' ', 'l', 'o', 'o', 'p', '.', 'e', 'x', 'a', 'm', 'p', 'l', 'e', '/', 'g', 'r', 'a', 'p', 'h', 'c', 'l', 'u', 's', 't', 'e', 'r', '/', 'l', 'a', 'w', 's', '.', 'F', 'n', 'E', 'x', 'a', 'c', 't', 'P', 'a', 'r', 't', 'O', 'f', ' ', 'l', 'o', 'o', 'p', '.', 'e', 'x', 'a', 'm', 'p', 'l', 'e', '/', 'g', 'r', 'a', 'p', 'h', 'c', 'l', 'u', 's', 't', 'e', 'r', '/', 'l', 'a', 'w', 's', '.', 'F', 'n', 'E', 'x', 'a', 'c', 't', 'D', 'e', 'g', 'r', 'e', 'e', 's', 'O', 'f', ' ', 'l', 'o', 'o', 'p', '.', 'e', 'x', 'a', 'm', 'p', 'l', 'e', '/', 'g', 'r', 'a', 'p', 'h', 'c', 'l', 'u', 's', 't', 'e', 'r', '/', 'l', 'a', 'w', 's', '.', 'F', 'n', 'E', 'x', 'a', 'c', 't', 'G', 'r', 'a', 'p', 'h', 'B', 'y', 't', 'e', 's'] : List Char) := by
  exact @String.toList_ofList (['h', 'a', 'r', 'n', 'e', 's', 's', ' ', 'c', '8', '3', 'c', '0', '0', '3', 'b', '2', '3', '2', '2', 'f', 'f', '9', '0', 'b', 'd', '0', 'f', 'f', 'b', 'a', 'c', '3', 'f', 'c', 'f', '6', '9', '9', '4', '6', 'd', '9', '2', 'b', 'b', '6', '8', '9', 'f', '7', 'f', '7', 'd', '5', '8', 'f', '4', 'c', 'a', '3', 'e', 'c', '6', '2', '2', '3', '6', '6', '9', '4', '1', ' ', 'c', 'u', 't', ' ', 'a', 't', ' ', 'l', 'o', 'o', 'p', '.', 'e', 'x', 'a', 'm', 'p', 'l', 'e', '/', 'g', 'r', 'a', 'p', 'h', 'c', 'l', 'u', 's', 't', 'e', 'r', '/', 'l', 'a', 'w', 's', '.', 'F', 'n', 'E', 'x', 'a', 'c', 't', 'G', 'r', 'a', 'p', 'h', 'V', 'a', 'l', 'i', 'd', ' ', 'l', 'o', 'o', 'p', '.', 'e', 'x', 'a', 'm', 'p', 'l', 'e', '/', 'g', 'r', 'a', 'p', 'h', 'c', 'l', 'u', 's', 't', 'e', 'r', '/', 'l', 'a', 'w', 's', '.', 'F', 'n', 'E', 'x', 'a', 'c', 't', 'W', 'e', 'i', 'g', 'h', 't', 'O', 'f', ' ', 'l', 'o', 'o', 'p', '.', 'e', 'x', 'a', 'm', 'p', 'l', 'e', '/', 'g', 'r', 'a', 'p', 'h', 'c', 'l', 'u', 's', 't', 'e', 'r', '/', 'l', 'a', 'w', 's', '.', 'F', 'n', 'G', 'r', 'a', 'p', 'h', 'V', 'a', 'l', 'i', 'd', ' ', 'l', 'o', 'o', 'p', '.', 'e', 'x', 'a', 'm', 'p', 'l', 'e', '/', 'g', 'r', 'a', 'p', 'h', 'c', 'l', 'u', 's', 't', 'e', 'r', '/', 'l', 'a', 'w', 's', '.', 'F', 'n', 'E', 'x', 'a', 'c', 't', 'P', 'a', 'r', 't', 'O', 'f', ' ', 'l', 'o', 'o', 'p', '.', 'e', 'x', 'a', 'm', 'p', 'l', 'e', '/', 'g', 'r', 'a', 'p', 'h', 'c', 'l', 'u', 's', 't', 'e', 'r', '/', 'l', 'a', 'w', 's', '.', 'F', 'n', 'E', 'x', 'a', 'c', 't', 'D', 'e', 'g', 'r', 'e', 'e', 's', 'O', 'f', ' ', 'l', 'o', 'o', 'p', '.', 'e', 'x', 'a', 'm', 'p', 'l', 'e', '/', 'g', 'r', 'a', 'p', 'h', 'c', 'l', 'u', 's', 't', 'e', 'r', '/', 'l', 'a', 'w', 's', '.', 'F', 'n', 'E', 'x', 'a', 'c', 't', 'G', 'r', 'a', 'p', 'h', 'B', 'y', 't', 'e', 's'] : List Char)
theorem orderSigns : wordsSigns (['h', 'a', 'r', 'n', 'e', 's', 's', ' ', 'c', '8', '3', 'c', '0', '0', '3', 'b', '2', '3', '2', '2', 'f', 'f', '9', '0', 'b', 'd', '0', 'f', 'f', 'b', 'a', 'c', '3', 'f', 'c', 'f', '6', '9', '9', '4', '6', 'd', '9', '2', 'b', 'b', '6', '8', '9', 'f', '7', 'f', '7', 'd', '5', '8', 'f', '4', 'c', 'a', '3', 'e', 'c', '6', '2', '2', '3', '6', '6', '9', '4', '1', ' ', 'c', 'u', 't', ' ', 'a', 't', ' ', 'l', 'o', 'o', 'p', '.', 'e', 'x', 'a', 'm', 'p', 'l', 'e', '/', 'g', 'r', 'a', 'p', 'h', 'c', 'l', 'u', 's', 't', 'e', 'r', '/', 'l', 'a', 'w', 's', '.', 'F', 'n', 'E', 'x', 'a', 'c', 't', 'G', 'r', 'a', 'p', 'h', 'V', 'a', 'l', 'i', 'd', ' ', 'l', 'o', 'o', 'p', '.', 'e', 'x', 'a', 'm', 'p', 'l', 'e', '/', 'g', 'r', 'a', 'p', 'h', 'c', 'l', 'u', 's', 't', 'e', 'r', '/', 'l', 'a', 'w', 's', '.', 'F', 'n', 'E', 'x', 'a', 'c', 't', 'W', 'e', 'i', 'g', 'h', 't', 'O', 'f', ' ', 'l', 'o', 'o', 'p', '.', 'e', 'x', 'a', 'm', 'p', 'l', 'e', '/', 'g', 'r', 'a', 'p', 'h', 'c', 'l', 'u', 's', 't', 'e', 'r', '/', 'l', 'a', 'w', 's', '.', 'F', 'n', 'G', 'r', 'a', 'p', 'h', 'V', 'a', 'l', 'i', 'd', ' ', 'l', 'o', 'o', 'p', '.', 'e', 'x', 'a', 'm', 'p', 'l', 'e', '/', 'g', 'r', 'a', 'p', 'h', 'c', 'l', 'u', 's', 't', 'e', 'r', '/', 'l', 'a', 'w', 's', '.', 'F', 'n', 'E', 'x', 'a', 'c', 't', 'P', 'a', 'r', 't', 'O', 'f', ' ', 'l', 'o', 'o', 'p', '.', 'e', 'x', 'a', 'm', 'p', 'l', 'e', '/', 'g', 'r', 'a', 'p', 'h', 'c', 'l', 'u', 's', 't', 'e', 'r', '/', 'l', 'a', 'w', 's', '.', 'F', 'n', 'E', 'x', 'a', 'c', 't', 'D', 'e', 'g', 'r', 'e', 'e', 's', 'O', 'f', ' ', 'l', 'o', 'o', 'p', '.', 'e', 'x', 'a', 'm', 'p', 'l', 'e', '/', 'g', 'r', 'a', 'p', 'h', 'c', 'l', 'u', 's', 't', 'e', 'r', '/', 'l', 'a', 'w', 's', '.', 'F', 'n', 'E', 'x', 'a', 'c', 't', 'G', 'r', 'a', 'p', 'h', 'B', 'y', 't', 'e', 's'] : List Char) = ([['h', 'a', 'r', 'n', 'e', 's', 's'], ['c', '8', '3', 'c', '0', '0', '3', 'b', '2', '3', '2', '2', 'f', 'f', '9', '0', 'b', 'd', '0', 'f', 'f', 'b', 'a', 'c', '3', 'f', 'c', 'f', '6', '9', '9', '4', '6', 'd', '9', '2', 'b', 'b', '6', '8', '9', 'f', '7', 'f', '7', 'd', '5', '8', 'f', '4', 'c', 'a', '3', 'e', 'c', '6', '2', '2', '3', '6', '6', '9', '4', '1'], ['c', 'u', 't'], ['a', 't'], ['l', 'o', 'o', 'p', '.', 'e', 'x', 'a', 'm', 'p', 'l', 'e', '/', 'g', 'r', 'a', 'p', 'h', 'c', 'l', 'u', 's', 't', 'e', 'r', '/', 'l', 'a', 'w', 's', '.', 'F', 'n', 'E', 'x', 'a', 'c', 't', 'G', 'r', 'a', 'p', 'h', 'V', 'a', 'l', 'i', 'd'], ['l', 'o', 'o', 'p', '.', 'e', 'x', 'a', 'm', 'p', 'l', 'e', '/', 'g', 'r', 'a', 'p', 'h', 'c', 'l', 'u', 's', 't', 'e', 'r', '/', 'l', 'a', 'w', 's', '.', 'F', 'n', 'E', 'x', 'a', 'c', 't', 'W', 'e', 'i', 'g', 'h', 't', 'O', 'f'], ['l', 'o', 'o', 'p', '.', 'e', 'x', 'a', 'm', 'p', 'l', 'e', '/', 'g', 'r', 'a', 'p', 'h', 'c', 'l', 'u', 's', 't', 'e', 'r', '/', 'l', 'a', 'w', 's', '.', 'F', 'n', 'G', 'r', 'a', 'p', 'h', 'V', 'a', 'l', 'i', 'd'], ['l', 'o', 'o', 'p', '.', 'e', 'x', 'a', 'm', 'p', 'l', 'e', '/', 'g', 'r', 'a', 'p', 'h', 'c', 'l', 'u', 's', 't', 'e', 'r', '/', 'l', 'a', 'w', 's', '.', 'F', 'n', 'E', 'x', 'a', 'c', 't', 'P', 'a', 'r', 't', 'O', 'f'], ['l', 'o', 'o', 'p', '.', 'e', 'x', 'a', 'm', 'p', 'l', 'e', '/', 'g', 'r', 'a', 'p', 'h', 'c', 'l', 'u', 's', 't', 'e', 'r', '/', 'l', 'a', 'w', 's', '.', 'F', 'n', 'E', 'x', 'a', 'c', 't', 'D', 'e', 'g', 'r', 'e', 'e', 's', 'O', 'f'], ['l', 'o', 'o', 'p', '.', 'e', 'x', 'a', 'm', 'p', 'l', 'e', '/', 'g', 'r', 'a', 'p', 'h', 'c', 'l', 'u', 's', 't', 'e', 'r', '/', 'l', 'a', 'w', 's', '.', 'F', 'n', 'E', 'x', 'a', 'c', 't', 'G', 'r', 'a', 'p', 'h', 'B', 'y', 't', 'e', 's']] : List (List Char)) := by kernel_rfl
theorem mayEnter_ok : Try.pinned.checked.prog.mayEnter = true :=
  mayEnter_gen orderList orderSigns (by kernel_rfl) (by kernel_rfl) (by kernel_rfl) (by kernel_rfl)
theorem liftsFinal_no : Try.pinned.checked.prog.liftsFinal = false :=
  liftsFinal_gen orderList orderSigns (by kernel_rfl)
theorem make_cut : Try.pinned.checked.prog.make = some .cut :=
  make_gen orderList orderSigns (by kernel_rfl)
end Go.Proofs.Ytoolmknnmmecfaa
