/- Plain: more on texts. -/
import Derived.Test.YtiehjmjobcklmaaDoorTp0
import Derived.Laws.Strings
namespace Go.Proofs.YtiehjmjobcklmaaDoor
open Go.RowKit
namespace Tp
theorem tl_eq (x : ByteArray) : x.toList = bl x := ByteArray.toList_eq x
theorem tl_beq {x k : ByteArray} (h : bl x = bl k) : (x.toList == k.toList) = true := by rw [tl_eq, tl_eq, h]; simp
theorem tl_bne {x k : ByteArray} (h : bl x ≠ bl k) : (x.toList == k.toList) = false := by rw [tl_eq, tl_eq]; simpa using h
theorem tl_yes {x : ByteArray} {l : Bs} (h : bl x = l) : (x.toList == l) = true := by rw [tl_eq, h]; simp
theorem tl_no {x : ByteArray} {l : Bs} (h : bl x ≠ l) : (x.toList == l) = false := by rw [tl_eq]; simpa using h
end Tp
end Go.Proofs.YtiehjmjobcklmaaDoor
