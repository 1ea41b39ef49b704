/- Walks: the laws TapeNames and TapeEnds. -/
import Derived.Test.YtiehjmjobcklmaaDoorTpZa
import Derived.Test.YtiehjmjobcklmaaDoorTpP
import Derived.Deep.QuietTactic
import Derived.BigQuiet
namespace Go.Proofs.YtiehjmjobcklmaaDoor
open Go.RowKit Go.Shelf Go.Lib
namespace Tp
theorem memB_small {f : FileM} (h : GoodM f) : (memB f).length ≤ f.data.length + 4096 := by
  have h1 := paxB_len h.nl h.ll
  have h2 := fullB_len (paxB f)
  have h3 := fullB_len f.data
  unfold memB
  split
  · rw [List.length_append, List.length_append, headB_len, List.length_nil]; omega
  · simp only [List.length_append, headB_len]; omega
def dataSum : List FileM → Nat
  | [] => 0
  | f :: fs => f.data.length + dataSum fs
theorem bodyB_small : ∀ (fs : List FileM), (∀ f ∈ fs, GoodM f) → (bodyB fs).length ≤ dataSum fs + 4096 * fs.length
  | [], _ => by simp [bodyB]
  | f :: fs, h => by
    have e : bodyB (f :: fs) = memB f ++ bodyB fs := by simp [bodyB]
    have h1 := memB_small (h f (by simp))
    have h2 := bodyB_small fs fun g hg => h g (by simp [hg])
    rw [e, List.length_append, dataSum, List.length_cons]; omega
theorem rep_split : List.replicate 1024 (0 : UInt8) = List.replicate 512 0 ++ List.replicate 512 0 := by rw [List.replicate_append_replicate]
theorem good_all {fs : List FileI} (h : okW fs) (hd : ∀ f ∈ fs, f.data.length ≤ 1048576) : ∀ f ∈ fs.map FileI.toM, GoodM f := by
  intro f hf
  obtain ⟨g, hg, rfl⟩ := List.mem_map.1 hf
  exact (code_zero (h.2 g hg) (by have := hd g hg; omega)).1
open Classical in
theorem WriteR.cases {fs : List FileI} {w w' : World} {e : Ending} (h : WriteR fs w e w') : Below w.heap.size w w' ∧ ((okW fs ∧ ∃ s : ByteArray, e = .returned (.tuple #[.string s, .int .i64 0]) ∧ bl s = writeB (fs.map FileI.toM)) ∨ (∃ c : Int, c ≠ 0 ∧ e = .returned (.tuple #[.string ⟨#[]⟩, .int .i64 c]))) := by
  unfold WriteR at h
  by_cases hok : okW fs
  · rw [if_pos hok] at h; exact ⟨h.1, .inl ⟨hok, h.2⟩⟩
  · rw [if_neg hok] at h; exact ⟨h.1, .inr h.2⟩
def pairArr (n o : ByteArray) : Array Value := #[.string n, .string ⟨#[]⟩, .int .u8 48, .int .i64 0, .int .i64 1, .int .i64 0, .string ⟨#[97]⟩, .string o, .string ⟨#[]⟩, .int .u8 48, .int .i64 0, .int .i64 0, .int .i64 0, .string ⟨#[]⟩]
theorem pair_cells {w : World} {L : Nat} {n o : ByteArray} (h : w.heap[L]? = some (.cells (pairArr n o) 36 (0, 0))) : MemCellsI w L [⟨bl n, [], 48, 0, 1, 0, [97]⟩, ⟨bl o, [], 48, 0, 0, 0, []⟩] := by
  have hc : ∀ i, w.cell? ⟨L, i, none⟩ = (pairArr n o)[i]? := fun i => cell_of_row _ _ _ _ _ _ h
  intro j hj
  match j, hj with
  | 0, _ => exact ⟨hc 0, hc 1, hc 2, hc 3, hc 4, hc 5, hc 6⟩
  | 1, _ => exact ⟨hc 7, hc 8, hc 9, hc 10, hc 11, hc 12, hc 13⟩
def pairF (n o : ByteArray) : List FileI := [⟨bl n, [], 48, 0, 1, 0, [97]⟩, ⟨bl o, [], 48, 0, 0, 0, []⟩]
def pairM (n o : ByteArray) : List FileM := [⟨bl n, [], 48, 0, 1, 0, [97]⟩, ⟨bl o, [], 48, 0, 0, 0, []⟩]
theorem pair_map (n o : ByteArray) : (pairF n o).map FileI.toM = pairM n o := rfl
theorem pair_dat {n o : ByteArray} (hn : n.size ≤ 1048576) (ho : o.size ≤ 1048576) : ∀ f ∈ pairF n o, f.data.length ≤ 1048576 ∧ f.name.length ≤ 1048576 ∧ f.link.length ≤ 1048576 := by
  intro f hf
  unfold pairF at hf
  simp only [List.mem_cons, List.not_mem_nil, or_false] at hf
  have a0 : (0 : Nat) ≤ 1048576 := Nat.zero_le _
  have a1 : (1 : Nat) ≤ 1048576 := by omega
  rcases hf with rfl | rfl
  · exact ⟨a1, by rw [bl_length]; exact hn, a0⟩
  · exact ⟨a0, by rw [bl_length]; exact ho, a0⟩
def Pair (n o : ByteArray) (g : Nat) (w : World) : Prop := w.cell? ⟨g, 0, none⟩ = some (.string n) ∧ w.cell? ⟨g, 1, none⟩ = some (.string ⟨#[]⟩) ∧ w.cell? ⟨g, 2, none⟩ = some (.int .u8 48) ∧ w.cell? ⟨g, 3, none⟩ = some (.int .i64 0) ∧ w.cell? ⟨g, 4, none⟩ = some (.int .i64 1) ∧ w.cell? ⟨g, 5, none⟩ = some (.int .i64 0) ∧ w.cell? ⟨g, 6, none⟩ = some (.string ⟨#[97]⟩) ∧ w.cell? ⟨g, 7, none⟩ = some (.string o) ∧ w.cell? ⟨g, 8, none⟩ = some (.string ⟨#[]⟩) ∧ w.cell? ⟨g, 9, none⟩ = some (.int .u8 48) ∧ w.cell? ⟨g, 10, none⟩ = some (.int .i64 0) ∧ w.cell? ⟨g, 11, none⟩ = some (.int .i64 0) ∧ w.cell? ⟨g, 12, none⟩ = some (.int .i64 0) ∧ w.cell? ⟨g, 13, none⟩ = some (.string ⟨#[]⟩)
theorem pair_out {w : World} {g : Nat} {n o : ByteArray} (h : MemCells w g (pairM n o)) : Pair n o g w := by
  have h0 := h 0 (show 0 < 2 by omega)
  have h1 := h 1 (show 1 < 2 by omega)
  exact ⟨h0.1, h0.2.1, h0.2.2.1, h0.2.2.2.1, h0.2.2.2.2.1, h0.2.2.2.2.2.1, h0.2.2.2.2.2.2, h1.1, h1.2.1, h1.2.2.1, h1.2.2.2.1, h1.2.2.2.2.1, h1.2.2.2.2.2.1, h1.2.2.2.2.2.2⟩
theorem pair_row {w : World} {g : Nat} {n o : ByteArray} (h : w.heap[g]? = some (.cells (pairArr n o) 36 (0, 0))) : Pair n o g w := by
  have hc : ∀ i, w.cell? ⟨g, i, none⟩ = (pairArr n o)[i]? := fun i => cell_of_row _ _ _ _ _ _ h
  exact ⟨hc 0, hc 1, hc 2, hc 3, hc 4, hc 5, hc 6, hc 7, hc 8, hc 9, hc 10, hc 11, hc 12, hc 13⟩
theorem Pair.alloc {w : World} {g : Nat} {n o : ByteArray} (h : Pair n o g w) (x : Obj) : Pair n o g (w.alloc x) := by
  have hl : g < w.heap.size := World.block_lt_of_cell? _ _ h.1
  obtain ⟨a0, a1, a2, a3, a4, a5, a6, a7, a8, a9, a10, a11, a12, a13⟩ := h
  exact ⟨(World.cell?_alloc_lt _ _ _ hl).trans a0, (World.cell?_alloc_lt _ _ _ hl).trans a1, (World.cell?_alloc_lt _ _ _ hl).trans a2, (World.cell?_alloc_lt _ _ _ hl).trans a3, (World.cell?_alloc_lt _ _ _ hl).trans a4, (World.cell?_alloc_lt _ _ _ hl).trans a5, (World.cell?_alloc_lt _ _ _ hl).trans a6, (World.cell?_alloc_lt _ _ _ hl).trans a7, (World.cell?_alloc_lt _ _ _ hl).trans a8, (World.cell?_alloc_lt _ _ _ hl).trans a9, (World.cell?_alloc_lt _ _ _ hl).trans a10, (World.cell?_alloc_lt _ _ _ hl).trans a11, (World.cell?_alloc_lt _ _ _ hl).trans a12, (World.cell?_alloc_lt _ _ _ hl).trans a13⟩
theorem write_pair {wl : World} {L : Nat} {n o : ByteArray} (h : wl.heap[L]? = some (.cells (pairArr n o) 36 (0, 0))) (hn : n.size ≤ 1048576) (ho : o.size ≤ 1048576) (hg : GT wl) :
    Calls Tryd.prog 10 #[.slice (some ⟨L, 0, none⟩) 2 2] wl (WriteR (pairF n o) wl) :=
  write_any (pairF n o) L 2 wl (show (2 : Nat) ≤ 1048576 by omega) (pair_cells h) (pair_dat hn ho) hg
theorem pair_read {n o s : ByteArray} (hok : okW (pairF n o)) (hs : bl s = writeB ((pairF n o).map FileI.toM)) (hn : n.size ≤ 1048576) (ho : o.size ≤ 1048576) : s.size ≤ 16777216 ∧ readM s.size (bl s) 0 st0 = .ok (pairM n o) := by
  have hgood := good_all hok (fun f hf => (pair_dat hn ho f hf).1)
  rw [pair_map] at hgood hs
  have hl2 : (pairM n o).length = 2 := rfl
  have hds : dataSum (pairM n o) = 1 := rfl
  have h1 := bodyB_small _ hgood
  rw [hds, hl2] at h1
  have h2 := read_write (gs := pairM n o) (rest := List.replicate 1024 0) hgood (by omega) (.inr ⟨_, rep_split⟩)
  refine ⟨?_, ?_⟩
  · rw [← bl_length, hs, writeB, List.length_append, List.length_replicate]; omega
  · rw [← bl_length, hs, writeB]; exact h2
set_option maxRecDepth 100000 in
set_option maxHeartbeats 4000000 in
theorem tapeNames_any (n o : ByteArray) (mx : Int) (w : World) (hn : n.size ≤ 1048576) (ho : o.size ≤ 1048576) (hg : GT w) (hm : w.cell? ⟨2, 0, none⟩ = some (.int .i64 mx)) :
    Calls Tryd.prog 5 #[.string n, .string o] w (LawR w) := by
  have h16 := hg.big
  have HG := Lib.hid hg
  clear hg
  go_enter Tryd.func5, Tryd.ntmps5
  go_wp2_with fail
  refine (speaks_any w).mono ?_
  rintro e w1 ⟨rfl, hb1⟩
  have HB1 := Lib.hid hb1
  clear hb1
  go_wp2_with fail
  have hrow : (w1.alloc (.cells (pairArr n o) 36)).heap[w1.heap.size]? = some (.cells (pairArr n o) 36 (0, 0)) := heap_alloc_new _ _
  have HB2 := Lib.hid (HB1.out.alloc HB1.out.size (.cells (pairArr n o) 36))
  have hwl : w1.alloc (.cells #[.string n, .string ⟨#[]⟩, .int .u8 48, .int .i64 0, .int .i64 1, .int .i64 0, .string ⟨#[97]⟩, .string o, .string ⟨#[]⟩, .int .u8 48, .int .i64 0, .int .i64 0, .int .i64 0, .string ⟨#[]⟩] 36) = w1.alloc (.cells (pairArr n o) 36) := rfl
  rw [hwl]
  clear hwl
  revert hrow HB2
  generalize w1.alloc (.cells (pairArr n o) 36) = wl
  intro hrow HB2
  have hgl : GT wl := HG.out.below HB2.out h16
  have hml : wl.cell? ⟨2, 0, none⟩ = some (.int .i64 mx) := (HB2.out.cell (World.block_lt_of_cell? _ _ hm)).trans hm
  have C := Lib.hid (write_pair hrow hn ho hgl)
  have HROW := Lib.hid hrow
  have hlt1 : w1.heap.size < wl.heap.size := (Array.getElem?_eq_some_iff.1 hrow).1
  have HML := Lib.hid hml
  have hmb : 2 < w.heap.size := World.block_lt_of_cell? _ _ hm
  clear hrow hgl hml hm
  refine C.out.mono ?_
  intro e w2 hW
  obtain ⟨hb2, ⟨hok, s, rfl, hs⟩ | ⟨c, hc, rfl⟩⟩ := hW.cases
  case inr =>
    have hcb : (c != 0) = true := bne_iff_ne.2 hc
    have HB3 := Lib.hid (HB2.out.trans (hb2.mono HB2.out.size))
    clear hc hb2 hW
    go_wp2_with fail
    go_ret
    exact ⟨rfl, HB3.out⟩
  obtain ⟨hsz, hread⟩ := pair_read hok hs hn ho
  have HRD := Lib.hid hread
  have HB3 := Lib.hid (HB2.out.trans (hb2.mono HB2.out.size))
  have hrow2 : w2.heap[w1.heap.size]? = _ := (hb2.block _ hlt1).trans HROW.out
  have HROW2 := Lib.hid hrow2
  have hm2 : w2.cell? ⟨2, 0, none⟩ = some (.int .i64 mx) := (hb2.cell (Nat.lt_of_lt_of_le hmb HB2.out.size)).trans HML.out
  clear hW hok hs hread hrow2 hb2 C HROW
  go_wp2_with fail
  refine (read_any s mx w2 hsz hm2).mono ?_
  rintro e w3 ⟨hb3, hR⟩
  rw [HRD.out] at hR
  obtain ⟨v, rfl, hown, _⟩ := hR
  have HB4 := Lib.hid (HB3.out.trans (hb3.mono HB3.out.size))
  have hrow3 : w3.heap[w1.heap.size]? = _ := (hb3.block _ (Array.getElem?_eq_some_iff.1 HROW2.out).1).trans HROW2.out
  obtain ⟨g, cap, rfl⟩ : ∃ g cap, v = .slice (some ⟨g, 0, none⟩) 2 cap := by
    rcases own_form hown with ⟨h, _⟩ | ⟨g, cap, h⟩
    · exact absurd (show (2 : Nat) = 0 from h) (by omega)
    · exact ⟨g, cap, h⟩
  have hmc := memCells_of hown rfl
  have HMC := Lib.hid hmc
  have HROW3 := Lib.hid hrow3
  clear hb3 hown hmc hrow3 hm2 hsz
  go_upto_region 8 with fail
  have hP1 := (pair_out HMC.out).alloc (.cells #[.int .i64 0, .int .i64 0] 26)
  have hP2 := (pair_row HROW3.out).alloc (.cells #[.int .i64 0, .int .i64 0] 26)
  have hF := heap_alloc_new w3 (.cells #[.int .i64 0, .int .i64 0] 26)
  have hBf := HB4.out.alloc HB4.out.size (.cells #[.int .i64 0, .int .i64 0] 26)
  revert hP1 hP2 hF hBf
  generalize w3.alloc (.cells #[.int .i64 0, .int .i64 0] 26) = w4
  intro hP1 hP2 hF hBf
  have HBF := Lib.hid hBf
  have c0 : w4.cell? ⟨w3.heap.size, 0, none⟩ = some (.int .i64 0) := by rw [cell_of_row _ _ _ _ _ _ hF]; rfl
  have c1 : w4.cell? ⟨w3.heap.size, 1, none⟩ = some (.int .i64 0) := by rw [cell_of_row _ _ _ _ _ _ hF]; rfl
  obtain ⟨a0, a1, a2, a3, a4, a5, a6, a7, a8, a9, a10, a11, a12, a13⟩ := hP1
  obtain ⟨b0, b1, b2, b3, b4, b5, b6, b7, b8, b9, b10, b11, b12, b13⟩ := hP2
  clear hBf hF
  go_quiet (fail)
  go_wp2_with fail
  go_ret
  exact ⟨rfl, below_drewN HBF.out _⟩
end Tp
end Go.Proofs.YtiehjmjobcklmaaDoor
