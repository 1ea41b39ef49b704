/- Walks: a span laid, a head, a filled text, a record. -/
import Derived.Test.YtiehjmjobcklmaaDoorTpS
import Derived.Test.YtiehjmjobcklmaaDoorTp6
import Derived.Deep.RegionWith
import Derived.StillTailTactics
namespace Go.Proofs.YtiehjmjobcklmaaDoor
open Go.RowKit Go.Shelf Go.Lib
namespace Tp
theorem run_copy_lay {P : Program} (w : World) (dT sT ty elem : TypeId) (g o dLen dCap : Nat) (s : ByteArray) (cur : Array Value) (t : TypeId)
    (hu : P.underlying dT = some (.slice elem)) (hs : (P.info? elem).map (·.size) = some 1) (hg : w.heap[g]? = some (.cells cur t (0, 0))) (hfit : o + min s.size dLen ≤ cur.size) :
    (Builtin.copy_ #[dT, sT] ty #[.slice (some ⟨g, o, none⟩) dLen dCap, .string s]).run P w =
      .ok (goInt ((min s.size dLen : Nat) : Int)) (w.setRow g (cur.toList.take o ++ byteCells (s.data.toList.take (min s.size dLen)) ++ cur.toList.drop (o + min s.size dLen)).toArray) := by
  have hlen : (byteCells (s.data.toList.take (min s.size dLen))).length = min s.size dLen := by
    rw [byteCells_length, List.length_take, ← size_eq]; omega
  have hst := run_storeCells_at P g o t (byteCells (s.data.toList.take (min s.size dLen))) 0 cur w hg (by rw [hlen]; simpa using hfit) (byteCells_one _)
  have htk : List.take (min s.size dLen) (List.map (fun b : UInt8 => Value.int IntKind.u8 (b.toNat : Int)) s.data.toList) = byteCells (s.data.toList.take (min s.size dLen)) := by
    rw [byteCells, List.map_take]
  rw [hlen] at hst
  simp only [Nat.add_zero] at hst
  cases hq : P.info? elem with
  | none => simp [hq] at hs
  | some i =>
    simp [Builtin.copy_, run_underlying hu, Builtin.lenOf, Builtin.firstCells, sizeOf, typeInfo, hq]
    have hm : Nat.min s.size dLen = min s.size dLen := rfl
    rw [hm, htk, hst]
    simp [Result.andThen]
theorem lay_cells (L : Bs) (p n : Nat) (s : ByteArray) : ((byteCells L).toArray.toList.take p ++ byteCells (s.data.toList.take (min s.size n)) ++ (byteCells L).toArray.toList.drop (p + min s.size n)).toArray = (byteCells (layB L p n (bl s))).toArray := by
  have e1 : (bl s).length = s.size := bl_length s
  have e2 : s.data.toList.take (min s.size n) = (bl s).take n := by
    rw [← e1, Nat.min_comm]; exact List.take_eq_take_min.symm
  rw [layB, e1, e2, Nat.min_comm n]
  simp [byteCells]
theorem grown_trans' {a b c : World} {row : Option Nat} (h : a.grownBy b row) (k : b.grownBy c row) : a.grownBy c row :=
  ⟨k.os.trans h.os, k.tape.trans h.tape, k.output.trans h.output, Nat.le_trans h.size k.size, fun i hi hne => (k.block i (Nat.lt_of_lt_of_le hi h.size) hne).trans (h.block i hi hne)⟩
def ByteRow (w : World) (g : Nat) (L : Bs) : Prop := w.heap[g]? = some (.cells (byteCells L).toArray 5 (0, 0))
def LayR (g : Nat) (L : Bs) (w : World) (e : Ending) (w' : World) : Prop := e = .returned (.tuple #[]) ∧ ByteRow w' g L ∧ w.grownBy w' (some g)
set_option maxRecDepth 100000 in
theorem lay_span (L : Bs) (g p n : Nat) (s : ByteArray) (w : World) (hL : L.length = 512) (hg : ByteRow w g L) (h : p + n ≤ 512) (hn : 0 < n) :
    Calls Tryd.prog 47 #[.agg #[.int .i64 p, .int .i64 n], .slice (some ⟨g, 0, none⟩) 512 512, .string s] w (LayR g (layB L p n (bl s)) w) := by
  have HG := Lib.hid hg
  have hlt : g < w.heap.size := (Array.getElem?_eq_some_iff.1 hg).1
  clear hg
  have hrow : (w.alloc (.cells #[.int .i64 p, .int .i64 n] 87)).heap[g]? = some (.cells (byteCells L).toArray 5 (0, 0)) := (Below.heap_alloc _ _ _ hlt).trans HG.out
  have hcp := run_copy_lay (P := Tryd.prog) _ 62 9 3 5 g p n (512 - p) s _ _ Tryd.underlying62 (by kernel_rfl) hrow (by simp [byteCells]; omega)
  have hE := Lib.hid (lay_cells L p n s)
  have HROW := Lib.hid hrow
  clear hrow
  obtain ⟨W', hW'⟩ : ∃ W', W' = (w.alloc (.cells #[.int .i64 p, .int .i64 n] 87)).setRow g ((byteCells L).toArray.toList.take p ++ byteCells (s.data.toList.take (min s.size n)) ++ (byteCells L).toArray.toList.drop (p + min s.size n)).toArray := ⟨_, rfl⟩
  rw [← hW'] at hcp
  have HW := Lib.hid hW'
  clear hW'
  go_enter Tryd.func47, Tryd.ntmps47
  go_wp2_with fail
  go_end0
  refine ⟨rfl, ?_, ?_⟩
  · show W'.heap[g]? = _
    rw [HW.out, ← hE.out]
    exact setRow_heap _ _ _ _ _ _ HROW.out
  · rw [HW.out]
    exact grown_trans' (World.grownBy_alloc _ _ _) ⟨rfl, rfl, rfl, by simp [World.setRow], fun k _ hk => setRow_other _ _ _ _ (fun e => hk (by rw [e]))⟩
end Tp
end Go.Proofs.YtiehjmjobcklmaaDoor
