/- Walks: fields of a head (tape.span). -/
import Derived.Test.YtiehjmjobcklmaaDoorTp5
import Derived.RegionTactic
import Derived.Deep.QuietTactic
import Derived.BigQuiet
namespace Go.Proofs.YtiehjmjobcklmaaDoor
open Go.RowKit Go.Shelf Go.Lib
namespace Tp
def fld (h : Bs) (a n : Nat) : Bs := (h.drop a).take n

def FieldR (a n : Nat) (w : World) (e : Ending) (w' : World) : Prop := e = .returned (.agg #[.int .i64 a, .int .i64 n]) ∧ Below w.heap.size w w'
theorem name_any (w : World) : Calls Tryd.prog 46 #[] w (FieldR 0 100 w) := by
  go_enter Tryd.func46, Tryd.ntmps46
  go_wp2
  exact bodyPost_ret (v := .agg #[.int .i64 0, .int .i64 100]) (by simp [results, Tryd.results46, go_sem]) rfl ⟨rfl, (Below.refl _ _).alloc (Nat.le_refl _) _⟩
theorem mode_any (w : World) : Calls Tryd.prog 48 #[] w (FieldR 100 8 w) := by
  go_enter Tryd.func48, Tryd.ntmps48
  go_wp2
  exact bodyPost_ret (v := .agg #[.int .i64 100, .int .i64 8]) (by simp [results, Tryd.results48, go_sem]) rfl ⟨rfl, (Below.refl _ _).alloc (Nat.le_refl _) _⟩
theorem size_any (w : World) : Calls Tryd.prog 38 #[] w (FieldR 124 12 w) := by
  go_enter Tryd.func38, Tryd.ntmps38
  go_wp2
  exact bodyPost_ret (v := .agg #[.int .i64 124, .int .i64 12]) (by simp [results, Tryd.results38, go_sem]) rfl ⟨rfl, (Below.refl _ _).alloc (Nat.le_refl _) _⟩
theorem time_any (w : World) : Calls Tryd.prog 40 #[] w (FieldR 136 12 w) := by
  go_enter Tryd.func40, Tryd.ntmps40
  go_wp2
  exact bodyPost_ret (v := .agg #[.int .i64 136, .int .i64 12]) (by simp [results, Tryd.results40, go_sem]) rfl ⟨rfl, (Below.refl _ _).alloc (Nat.le_refl _) _⟩
theorem sum_any (w : World) : Calls Tryd.prog 51 #[] w (FieldR 148 8 w) := by
  go_enter Tryd.func51, Tryd.ntmps51
  go_wp2
  exact bodyPost_ret (v := .agg #[.int .i64 148, .int .i64 8]) (by simp [results, Tryd.results51, go_sem]) rfl ⟨rfl, (Below.refl _ _).alloc (Nat.le_refl _) _⟩
theorem link_any (w : World) : Calls Tryd.prog 50 #[] w (FieldR 157 100 w) := by
  go_enter Tryd.func50, Tryd.ntmps50
  go_wp2
  exact bodyPost_ret (v := .agg #[.int .i64 157, .int .i64 100]) (by simp [results, Tryd.results50, go_sem]) rfl ⟨rfl, (Below.refl _ _).alloc (Nat.le_refl _) _⟩
theorem prefix_any (w : World) : Calls Tryd.prog 65 #[] w (FieldR 345 155 w) := by
  go_enter Tryd.func65, Tryd.ntmps65
  go_wp2
  exact bodyPost_ret (v := .agg #[.int .i64 345, .int .i64 155]) (by simp [results, Tryd.results65, go_sem]) rfl ⟨rfl, (Below.refl _ _).alloc (Nat.le_refl _) _⟩

theorem of_any (h : ByteArray) (a n : Nat) (w : World) (_hb : a + n ≤ h.size) (_hs : h.size ≤ 16777216) :
    Calls Tryd.prog 60 #[.agg #[.int .i64 a, .int .i64 n], .string h] w (IsStr fun r w' => bl r = fld (bl h) a n ∧ r.size = n ∧ Below w.heap.size w w') := by
  go_enter Tryd.func60, Tryd.ntmps60
  go_wp2
  go_ret
  exact ⟨h.extract a (a + n), rfl, by rw [bl_extract, fld]; congr 1; omega, by simp; omega, (Below.refl _ _).alloc (Nat.le_refl _) _⟩

set_option maxRecDepth 100000 in
theorem text_any (h : ByteArray) (a n : Nat) (m : Int) (w : World) (_hb : a + n ≤ h.size) (_hs : h.size ≤ 16777216) (hm : w.cell? ⟨2, 0, none⟩ = some (.int .i64 m)) :
    Calls Tryd.prog 64 #[.agg #[.int .i64 a, .int .i64 n], .string h] w (IsStr fun r w' => bl r = takeTo 0 (fld (bl h) a n) ∧ r.size ≤ n ∧ Below w.heap.size w w') := by
  have hMB : 2 < w.heap.size := World.block_lt_of_cell? _ _ hm
  go_enter Tryd.func64, Tryd.ntmps64
  go_wp2_with fail
  refine (of_any h a n _ _hb _hs).mono ?_
  rintro e w' ⟨r, rfl, hr, hrs, hbel⟩
  have HR := Lib.hid hr; clear hr
  have HRS := Lib.hid hrs; clear hrs
  have hbel2 : Below w.heap.size w w' := ((Below.refl _ w).alloc (Nat.le_refl _) _).trans (hbel.mono (by simp))
  have hmr := (hbel2.cell (p := ⟨2, 0, none⟩) hMB).trans hm
  go_wp2_with fail
  refine (cut_any r 0 m _ (by have := HRS.out; omega) hmr).mono ?_
  rintro e w2 ⟨x, y, rfl, hx, hy, hxs, nn, rfl⟩
  have HX := Lib.hid hx; clear hx hy
  go_wp2_with fail
  go_ret
  exact ⟨x, rfl, by rw [HX.out, HR.out], by have := HRS.out; omega, below_drewN hbel2 nn⟩
end Tp
end Go.Proofs.YtiehjmjobcklmaaDoor
