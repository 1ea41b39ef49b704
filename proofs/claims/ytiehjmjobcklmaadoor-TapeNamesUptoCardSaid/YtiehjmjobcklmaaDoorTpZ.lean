/- Walks: an archive is written. -/
import Derived.Test.YtiehjmjobcklmaaDoorTpW
import Derived.Test.YtiehjmjobcklmaaDoorTpY
import Derived.Lib.OthersKept
namespace Go.Proofs.YtiehjmjobcklmaaDoor
open Go.RowKit Go.Shelf Go.Lib
namespace Tp
theorem copyCheck_k (B b : Nat) (bs : List Value) (w : World) (h : Lib.IsBuilderF 64 5 B b bs w) :
    Calls Tryd.prog 45 #[.pointer (some ⟨b, 0, none⟩)] w fun e w' => e = .returned (.tuple #[]) ∧ Lib.BuilderAtF 64 5 B b (.pointer (some ⟨b, 0, none⟩)) bs w' ∧ Below B w w' ∧ Lib.OthersKept 5 (some b) w w' := by
  rcases h with h | h
  · refine (copyCheck_fresh b w h.cell0 h.shape h.frozen0).mono ?_
    rintro e w' ⟨rfl, rfl⟩
    exact ⟨rfl, h.used _, (Below.refl B w).setCell (p := ⟨b, 0, none⟩) h.1 _, (Lib.OthersKept.refl _ _ w).setCell ⟨b, 0, none⟩ rfl _⟩
  · refine (copyCheck_used b w h.cell0).mono ?_
    rintro e w' ⟨rfl, rfl⟩
    exact ⟨rfl, h, Below.refl B _, Lib.OthersKept.refl _ _ _⟩
def WrR (B b : Nat) (bs : List Value) (s : ByteArray) (w : World) (e : Ending) (w' : World) : Prop :=
  e = .returned (.tuple #[.int .i64 s.size, .nilIface]) ∧ Lib.IsBuilderF 64 5 B b (bs ++ Lib.strCells s) w' ∧ Below B w w' ∧ Lib.OthersKept 5 (some b) w w'
set_option maxHeartbeats 2000000 in
set_option maxRecDepth 100000 in
theorem writeString_k (B b : Nat) (bs : List Value) (s : ByteArray) (w : World) (h : Lib.IsBuilderF 64 5 B b bs w) (hlen : bs.length + s.size ≤ 140737488355328) (hBw : B ≤ w.heap.size) :
    Calls Tryd.prog 22 #[.pointer (some ⟨b, 0, none⟩), .string s] w (WrR B b bs s w) := by
  obtain ⟨i0, hi, hz0, hz1, hz2⟩ := info_parts infoByte
  go_enter Tryd.func22, Tryd.ntmps22
  go_wp2_with fail
  refine (copyCheck_k B b bs _ h).mono ?_
  rintro e w1 ⟨rfl, h1, hb1, hk1⟩
  obtain ⟨hB, v, hbk, hown, hne⟩ := h1
  have c0 : w1.cell? ⟨b, 0, none⟩ = some (.pointer (some ⟨b, 0, none⟩)) := by rw [Lib.cell_of_heap hbk]; rfl
  have c1 : w1.cell? ⟨b, 1, none⟩ = some v := by rw [Lib.cell_of_heap hbk]; rfl
  go_wp2_with (at_builtin; refine Lib.wpList_append_own_stringF _ rfl _ _ 62 9 rfl B 5 i0 Tryd.underlying62 Tryd.underlying9 hi hz0 hz1 hz2 _ _ _ rfl hown s rfl ?c3 ?c4 ?c5 ?_)
  case c3 => unfold maxLen; omega
  case c4 => omega
  case c5 => have := hb1.size; omega
  intro v' w2 hown' hgrow _
  have hlt : b < w1.heap.size := (Array.getElem?_eq_some_iff.1 hbk).1
  have hb2 : w2.heap[b]? = some (.cells #[.pointer (some ⟨b, 0, none⟩), v] 64 (0, 0)) := by
    rw [hgrow.block b hlt (fun e => hne e.symm)]
    exact hbk
  have d0 : w2.cell? ⟨b, 0, none⟩ = some (.pointer (some ⟨b, 0, none⟩)) := by rw [Lib.cell_of_heap hb2]; rfl
  have d1 : w2.cell? ⟨b, 1, none⟩ = some v := by rw [Lib.cell_of_heap hb2]; rfl
  have f1 : w2.frozen? ⟨b, 1, none⟩ = false := Lib.frozen_of_heap hb2 1
  obtain ⟨ao, n', cap, rfl⟩ : ∃ ao n' cap, v' = .slice ao n' cap := by
    rcases hown'.2 with ⟨hv, _⟩ | ⟨g, cap, cur, fz, hv, _⟩
    · exact ⟨_, _, _, hv⟩
    · exact ⟨_, _, _, hv⟩
  go_wp2
  go_ret2
  refine ⟨rfl, .inr ?_, ?_, (hk1.grown hgrow (Lib.ownsRowF_kind hown)).setCell ⟨b, 1, none⟩ rfl _⟩
  · exact Lib.BuilderAtF.put (T := 64) (e := 5) hB hb2 (bs' := bs ++ Lib.strCells s) (by simpa [Lib.strCells_length] using hown') (by decide)
  · exact (hb1.grown hgrow (by have := hb1.size; omega) (fun k hk => (hown.lt k hk).1)).setCell (p := ⟨b, 1, none⟩) hB _
theorem builder_kept {T e : TypeId} {B b : Nat} {bs : List Value} {w w' : World} (h : Lib.IsBuilderF T e B b bs w) (hb : Below w.heap.size w w') : Lib.IsBuilderF T e B b bs w' := by
  have key : ∀ p, Lib.BuilderAtF T e B b p bs w → Lib.BuilderAtF T e B b p bs w' := fun p ⟨h1, v, h2, h3, h4⟩ =>
    ⟨h1, v, (hb.block _ (Array.getElem?_eq_some_iff.1 h2).1).trans h2, h3.kept (row := none) ⟨hb.os, hb.tape, hb.output, hb.size, fun k hk _ => hb.block k hk⟩ (by cases v.ownBlock <;> simp), h4⟩
  exact h.elim (fun h => .inl (key _ h)) (fun h => .inr (key _ h))
structure FileI where
  name : Bs
  link : Bs
  kind : UInt8
  mode : Int
  size : Int
  time : Int
  data : Bs
def FileI.toM (f : FileI) : FileM := ⟨f.name, f.link, f.kind, f.mode.toNat, f.size.toNat, f.time.toNat, f.data⟩
noncomputable def FileI.code (f : FileI) : Nat := goodC f.name f.link f.data f.kind f.mode f.size f.time
def MemCellsI (w : World) (g : Nat) (fs : List FileI) : Prop := ∀ j (h : j < fs.length), w.cell? ⟨g, j * 7, none⟩ = some (str fs[j].name) ∧ w.cell? ⟨g, j * 7 + 1, none⟩ = some (str fs[j].link) ∧ w.cell? ⟨g, j * 7 + 2, none⟩ = some (.int .u8 fs[j].kind.toNat) ∧
  w.cell? ⟨g, j * 7 + 3, none⟩ = some (.int .i64 fs[j].mode) ∧ w.cell? ⟨g, j * 7 + 4, none⟩ = some (.int .i64 fs[j].size) ∧ w.cell? ⟨g, j * 7 + 5, none⟩ = some (.int .i64 fs[j].time) ∧ w.cell? ⟨g, j * 7 + 6, none⟩ = some (str fs[j].data)
/-- what holds while one file is written -/
structure WInv (w0 : World) (b F : Nat) (nm lk dt : ByteArray) (kind : UInt8) (mode size time : Nat) (X : Bs) (w : World) : Prop where
  bel : Below w0.heap.size w0 w
  fc : w.heap[F]? = some (.cells #[.string nm, .string lk, .int .u8 kind.toNat, .int .i64 mode, .int .i64 size, .int .i64 time, .string dt] 36 (0, 0))
  ne : F ≠ b
  bld : Lib.IsBuilderF 64 5 w0.heap.size b (byteCells X) w
section
variable {w0 w w' : World} {b F : Nat} {nm lk dt : ByteArray} {kind : UInt8} {mode size time : Nat} {X Y : Bs}
theorem WInv.below (h : WInv w0 b F nm lk dt kind mode size time X w) (hb : Below w.heap.size w w') : WInv w0 b F nm lk dt kind mode size time X w' :=
  ⟨h.bel.trans (hb.mono h.bel.size), (hb.block _ (Array.getElem?_eq_some_iff.1 h.fc).1).trans h.fc, h.ne, builder_kept h.bld hb⟩
theorem WInv.write (h : WInv w0 b F nm lk dt kind mode size time X w) {s : ByteArray} (hb : Below w0.heap.size w w') (hk : Lib.OthersKept 5 (some b) w w') (hl : Lib.IsBuilderF 64 5 w0.heap.size b (byteCells X ++ Lib.strCells s) w') : WInv w0 b F nm lk dt kind mode size time (X ++ bl s) w' := by
  refine ⟨h.bel.trans hb, hk _ _ h.fc (fun e => h.ne (by injection e)) (fun c fz e => by cases e), h.ne, ?_⟩
  have e : byteCells X ++ Lib.strCells s = byteCells (X ++ bl s) := by rw [Lib.strCells_eq, byteCells, byteCells, byteCells, List.map_append]; rfl
  rw [← e]; exact hl
theorem WInv.cast (h : WInv w0 b F nm lk dt kind mode size time X w) (e : X = Y) : WInv w0 b F nm lk dt kind mode size time Y w := by subst e; exact h
theorem WInv.c0 (h : WInv w0 b F nm lk dt kind mode size time X w) : w.cell? ⟨F, 0, none⟩ = some (.string nm) := by rw [cell_of_row _ _ _ _ _ _ h.fc]; rfl
theorem WInv.c1 (h : WInv w0 b F nm lk dt kind mode size time X w) : w.cell? ⟨F, 1, none⟩ = some (.string lk) := by rw [cell_of_row _ _ _ _ _ _ h.fc]; rfl
theorem WInv.c2 (h : WInv w0 b F nm lk dt kind mode size time X w) : w.cell? ⟨F, 2, none⟩ = some (.int .u8 kind.toNat) := by rw [cell_of_row _ _ _ _ _ _ h.fc]; rfl
theorem WInv.c3 (h : WInv w0 b F nm lk dt kind mode size time X w) : w.cell? ⟨F, 3, none⟩ = some (.int .i64 mode) := by rw [cell_of_row _ _ _ _ _ _ h.fc]; rfl
theorem WInv.c4 (h : WInv w0 b F nm lk dt kind mode size time X w) : w.cell? ⟨F, 4, none⟩ = some (.int .i64 size) := by rw [cell_of_row _ _ _ _ _ _ h.fc]; rfl
theorem WInv.c5 (h : WInv w0 b F nm lk dt kind mode size time X w) : w.cell? ⟨F, 5, none⟩ = some (.int .i64 time) := by rw [cell_of_row _ _ _ _ _ _ h.fc]; rfl
theorem WInv.c6 (h : WInv w0 b F nm lk dt kind mode size time X w) : w.cell? ⟨F, 6, none⟩ = some (.string dt) := by rw [cell_of_row _ _ _ _ _ _ h.fc]; rfl
end
end Tp
end Go.Proofs.YtiehjmjobcklmaaDoor
