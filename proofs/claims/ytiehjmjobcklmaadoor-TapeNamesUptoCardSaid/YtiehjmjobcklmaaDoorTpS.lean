/- Walks: a strings.Builder is written; octal numbers. -/
import Derived.Test.YtiehjmjobcklmaaDoorTp2
import Derived.Test.YtiehjmjobcklmaaDoorTpT
import Derived.Test.YtiehjmjobcklmaaDoorTpK
import Derived.WalkKit
import Derived.Lib.SmallJoins
import Derived.Laws.IdiomStrings
import Derived.Lib.FrozenHead
import Derived.Lib.BufferWrite
import Derived.Lib.SlBuf
namespace Go.Proofs.YtiehjmjobcklmaaDoor
open Go.RowKit Go.Shelf Go.Lib
namespace Tp
set_option maxRecDepth 100000 in
theorem copyCheck_used (b : Nat) (w : World) (h0 : w.cell? ⟨b, 0, none⟩ = some (.pointer (some ⟨b, 0, none⟩))) :
    Calls Tryd.prog 45 #[.pointer (some ⟨b, 0, none⟩)] w fun e w' => e = .returned (.tuple #[]) ∧ w = w' := by
  obtain ⟨j, hj, _⟩ := Option.map_eq_some_iff.1 (show (Tryd.prog.info? 64).map (·.size) = some 2 by kernel_rfl)
  go_enter Tryd.func45, Tryd.ntmps45
  go_wp2
  rw [Lib.run_neq_ptr_same w _ Tryd.underlying61 hj]
  go_wp2
  go_end0
  exact ⟨rfl, rfl⟩
set_option maxRecDepth 100000 in
theorem copyCheck_fresh (b : Nat) (w : World) (h0 : w.cell? ⟨b, 0, none⟩ = some (.pointer none)) (hsh : w.shape? b = some (64, 2)) (hfz : w.frozen? ⟨b, 0, none⟩ = false) :
    Calls Tryd.prog 45 #[.pointer (some ⟨b, 0, none⟩)] w fun e w' => e = .returned (.tuple #[]) ∧ w' = w.setCell ⟨b, 0, none⟩ (.pointer (some ⟨b, 0, none⟩)) := by
  obtain ⟨j, hj, hjs⟩ := Option.map_eq_some_iff.1 (show (Tryd.prog.info? 64).map (·.size) = some 2 by kernel_rfl)
  go_enter Tryd.func45, Tryd.ntmps45
  go_wp2
  rw [Lib.run_to_unsafe w ⟨b, 0, none⟩ Tryd.underlying61 Tryd.underlying110 hj (by rw [hjs]; decide) hsh (Nat.zero_lt_succ 1)]
  simp only [Result.andThen]
  rw [Oper.upon_value]
  go_wp2
  rw [run_callFunc_extern Tryd.func68 (by kernel_rfl) (by kernel_rfl) (by kernel_rfl) (e := Extern.AbiNoEscape.same) (by kernel_rfl)]
  rw [Lib.run_noEscape]
  simp only [Result.andThen]
  rw [Oper.upon_value]
  go_wp2
  rw [Lib.run_from_unsafe w ⟨b, 0, none⟩ Tryd.underlying110 Tryd.underlying61 hj hsh (by kernel_rfl)]
  simp only [Result.andThen]
  rw [Oper.upon_value]
  go_wp2
  go_end0
  exact ⟨rfl, rfl⟩
theorem copyCheck_any (B b : Nat) (bs : List Value) (w : World) (h : Lib.IsBuilderF 64 5 B b bs w) :
    Calls Tryd.prog 45 #[.pointer (some ⟨b, 0, none⟩)] w fun e w' => e = .returned (.tuple #[]) ∧ Lib.BuilderAtF 64 5 B b (.pointer (some ⟨b, 0, none⟩)) bs w' ∧ Below B w w' := by
  rcases h with h | h
  · refine (copyCheck_fresh b w h.cell0 h.shape h.frozen0).mono ?_
    rintro e w' ⟨rfl, rfl⟩
    exact ⟨rfl, h.used _, (Below.refl B w).setCell (p := ⟨b, 0, none⟩) h.1 _⟩
  · refine (copyCheck_used b w h.cell0).mono ?_
    rintro e w' ⟨rfl, rfl⟩
    exact ⟨rfl, h, Below.refl B _⟩
theorem infoByte : (Tryd.prog.info? 5).map (fun i => (i.zero, i.size, i.bytes)) = some (some (.int .u8 0), 1, 1) := by kernel_rfl
set_option maxHeartbeats 2000000 in
set_option maxRecDepth 100000 in
theorem writeString_any (B b : Nat) (bs : List Value) (s : ByteArray) (w : World) (h : Lib.IsBuilderF 64 5 B b bs w) (hlen : bs.length + s.size ≤ 140737488355328) (hBw : B ≤ w.heap.size) :
    Calls Tryd.prog 22 #[.pointer (some ⟨b, 0, none⟩), .string s] w fun e w' => e = .returned (.tuple #[.int .i64 s.size, .nilIface]) ∧ Lib.IsBuilderF 64 5 B b (bs ++ Lib.strCells s) w' ∧ Below B w w' := by
  obtain ⟨i0, hi, hz0, hz1, hz2⟩ := info_parts infoByte
  go_enter Tryd.func22, Tryd.ntmps22
  go_wp2_with fail
  refine (copyCheck_any B b bs _ h).mono ?_
  rintro e w1 ⟨rfl, h1, hb1⟩
  obtain ⟨hB, v, hbk, hown, hne⟩ := h1
  have c0 : w1.cell? ⟨b, 0, none⟩ = some (.pointer (some ⟨b, 0, none⟩)) := by rw [Lib.cell_of_heap hbk]; rfl
  have c1 : w1.cell? ⟨b, 1, none⟩ = some v := by rw [Lib.cell_of_heap hbk]; rfl
  go_wp2_with (at_builtin; refine Lib.wpList_append_own_stringF _ rfl _ _ 62 9 rfl B 5 i0 Tryd.underlying62 Tryd.underlying9 hi hz0 hz1 hz2 _ _ _ rfl hown s rfl ?c3 ?c4 ?c5 ?_)
  case c3 => unfold maxLen; omega
  case c4 => omega
  case c5 => have := hb1.size; omega
  intro v' w2 hown' hgrow _
  have hlt : b < w1.heap.size := (Array.getElem?_eq_some_iff.1 hbk).1
  have hb2 : w2.heap[b]? = some (.cells #[.pointer (some ⟨b, 0, none⟩), v] 64 (0, 0)) := by
    rw [hgrow.block b hlt (fun e => hne e.symm)]
    exact hbk
  have d0 : w2.cell? ⟨b, 0, none⟩ = some (.pointer (some ⟨b, 0, none⟩)) := by rw [Lib.cell_of_heap hb2]; rfl
  have d1 : w2.cell? ⟨b, 1, none⟩ = some v := by rw [Lib.cell_of_heap hb2]; rfl
  have f1 : w2.frozen? ⟨b, 1, none⟩ = false := Lib.frozen_of_heap hb2 1
  obtain ⟨ao, n', cap, rfl⟩ : ∃ ao n' cap, v' = .slice ao n' cap := by
    rcases hown'.2 with ⟨hv, _⟩ | ⟨g, cap, cur, fz, hv, _⟩
    · exact ⟨_, _, _, hv⟩
    · exact ⟨_, _, _, hv⟩
  go_wp2
  go_ret2
  refine ⟨rfl, .inr ?_, ?_⟩
  · exact Lib.BuilderAtF.put (T := 64) (e := 5) hB hb2 (bs' := bs ++ Lib.strCells s) (by simpa [Lib.strCells_length] using hown') (by decide)
  · exact (hb1.grown hgrow (by have := hb1.size; omega) (fun k hk => (hown.lt k hk).1)).setCell (p := ⟨b, 1, none⟩) hB _
/-- math/bits.TrailingZeros at 8 -/
theorem tz8 (w : World) (hc : w.cell? ⟨5, 7, none⟩ = some (.int .u8 3)) :
    Calls Tryd.prog 94 #[.int .u64 8] w fun e w' => e = .returned (.int .i64 3) ∧ w = w' := by
  go_enter Tryd.func94, Tryd.ntmps94
  have e1 : IntKind.u64.wrap (-8) = 18446744073709551608 := by decide +kernel
  have e2 : bits .and .u64 8 18446744073709551608 = 8 := by decide +kernel
  have e3 : IntKind.u64.wrap (8 * 285870213051353865) = 2286961704410830920 := by decide +kernel
  go_wp2
  go_ret
  exact ⟨rfl, rfl⟩
theorem pow8 (w : World) : Calls Tryd.prog 93 #[.int .i64 8] w fun e w' => e = .returned (.bool true) ∧ w = w' := by
  have e1 : bits .and .i64 8 7 = 0 := by decide +kernel
  have e2 : bits .and .i64 8 (8 - 1) = 0 := by decide +kernel
  go_enter Tryd.func93, Tryd.ntmps93
  go_wp2
  go_ret
  exact ⟨rfl, rfl⟩
def digs36 : ByteArray := ⟨#[48, 49, 50, 51, 52, 53, 54, 55, 56, 57, 97, 98, 99, 100, 101, 102, 103, 104, 105, 106, 107, 108, 109, 110, 111, 112, 113, 114, 115, 116, 117, 118, 119, 120, 121, 122]⟩
theorem dig8 : ∀ k : Fin 8, digs36[k.val]'(Nat.lt_of_lt_of_le k.isLt (by decide)) = UInt8.ofNat (48 + k.val) := by decide
theorem octs_succ : ∀ (k n : Nat), octs n (k + 1) = UInt8.ofNat (48 + n / 8 ^ k % 8) :: octs n k
  | 0, n => by simp [octs]
  | k + 1, n => by
    rw [octs, octs_succ k (n / 8), octs, Nat.div_div_eq_div_mul, Nat.mul_comm 8, ← Nat.pow_succ]; rfl
theorem pow_big {n j : Nat} (hn : n < 4611686018427387904) (h : 8 ≤ n / 8 ^ j) : j < 20 := by
  refine Nat.lt_of_not_le fun hj => ?_
  have h1 : n / 8 ^ j ≤ n / 8 ^ 20 := Nat.div_le_div_left (Nat.pow_le_pow_right (by decide) hj) (by decide)
  have h2 : (8 : Nat) ^ 20 = 1152921504606846976 := by decide
  rw [h2] at h1
  omega
theorem block_set' {w : World} {g : Nat} {cs : Array Value} {t : TypeId} (h : w.heap[g]? = some (.cells cs t (0, 0))) (i : Nat) (v : Value) : (w.setCell ⟨g, i, none⟩ v).heap[g]? = some (.cells (cs.setIfInBounds i v) t (0, 0)) := by
  simp [World.setCell, Array.getElem?_modify, h]
/-- an octal number with no digit too many -/
def OctS (n : Nat) (s : ByteArray) : Prop := ∃ k, 1 ≤ k ∧ k ≤ 21 ∧ n < 8 ^ k ∧ (k = 1 ∨ 8 ^ (k - 1) ≤ n) ∧ bl s = octs n k
def FB8 (n : Nat) (w : World) (e : Ending) (w' : World) : Prop := ∃ s : ByteArray, e = .returned (.tuple #[.slice none 0 0, .string s]) ∧ OctS n s ∧ Below w.heap.size w w'
/-- a row of 65 bytes: the first block behind w0 -/
structure Row65 (w0 : World) (A : Bs) (w : World) : Prop where
  bel : Below w0.heap.size w0 w
  row : w.heap[w0.heap.size]? = some (.cells (byteCells A).toArray 137 (0, 0))
  len : A.length = 65
theorem Row65.set {w0 w : World} {A : Bs} (h : Row65 w0 A w) (i : Nat) (d : UInt8) : Row65 w0 (A.set i d) (w.setCell ⟨w0.heap.size, i, none⟩ (.int .u8 d.toNat)) := by
  refine ⟨h.bel.setCell (Nat.le_refl _) _, (block_set' h.row i _).trans ?_, by rw [List.length_set]; exact h.len⟩
  have e : (byteCells A).toArray.setIfInBounds i (.int .u8 d.toNat) = (byteCells (A.set i d)).toArray := by
    rw [List.setIfInBounds_toArray, byteCells, byteCells, List.map_set]
  rw [e]
theorem set_drop {A : Bs} {i : Nat} {d : UInt8} (h : i < A.length) : (A.set i d).drop i = d :: A.drop (i + 1) := by
  rw [List.drop_eq_getElem_cons (by rw [List.length_set]; exact h), List.getElem_set_self, List.drop_set_of_lt (by omega)]
theorem slice65 (g j : Nat) (_hj : j ≤ 20) (W : World) : (Instr.sliceAt 137 (.pointer (some ⟨g, 0, none⟩)) (some (.int .i64 (65 - (j : Int) - 1))) none none).run Tryd.prog W = .ok (.slice (some ⟨g, 65 - j - 1, none⟩) (j + 1) (j + 1)) W := by
  have al : Tryd.prog.arrayLen 137 = 65 := by kernel_rfl
  have hz : (sizeOf (Tryd.prog.elem 137)).run Tryd.prog W = .ok 1 W := by kernel_rfl
  have h0 : (0 : Int) ≤ 65 - (j : Int) - 1 := by omega
  rw [run_sliceAt_array_l (P := Tryd.prog) W 137 ⟨g, 0, none⟩ (by kernel_rfl) .i64 _ h0 (by rw [al]; omega), hz, al]
  have e : (65 - (j : Int) - 1).toNat = 65 - j - 1 := by omega
  simp only [Result.andThen, slicedAt, e]
  rw [if_neg (by omega)]
  have e1 : 65 - (65 - j - 1) = j + 1 := by omega
  rw [e1, Nat.mul_one, add_zero_block]
theorem conv65 {w0 W : World} {A : Bs} {j n : Nat} (h : Row65 w0 A W) (hA : A.drop (65 - j - 1) = octs n (j + 1)) (hj : j ≤ 20) :
    (convert 62 9 (.slice (some ⟨w0.heap.size, 65 - j - 1, none⟩) (j + 1) (j + 1))).run Tryd.prog W = .ok (.string ⟨(octs n (j + 1)).toArray⟩) W := by
  have hl : (octs n (j + 1)).length = j + 1 := octs_len _ _
  have key := run_convert_bytes_back (P := Tryd.prog) W 62 9 5 ⟨w0.heap.size, 65 - j - 1, none⟩ (j + 1) (octs n (j + 1)) Tryd.underlying62 Tryd.underlying5 Tryd.underlying9 (fun i hi => by
    have e : (⟨w0.heap.size, 65 - j - 1, none⟩ : Addr).add i = ⟨w0.heap.size, 65 - j - 1 + i, none⟩ := by unfold Addr.add; split <;> simp_all
    have hg : (octs n (j + 1))[i]? = A[65 - j - 1 + i]? := by rw [← hA, List.getElem?_drop]
    rw [e, cell_of_row _ _ _ _ _ _ h.row, List.getElem?_toArray, byteCells, List.getElem?_map, ← hg, List.getElem?_eq_getElem hi]
    rfl)
  rw [hl] at key
  exact key
theorem zero65 : Tryd.zeroCells137 = (byteCells (List.replicate 65 0)).toArray := by kernel_rfl
theorem and7 (u : Nat) (h : u < 4611686018427387904) : bits .and .u64 (u : Int) 7 = ((u % 8 : Nat) : Int) := by
  have e : bits .and .u64 (u : Int) ((7 : Nat) : Int) = ((u &&& 7 : Nat) : Int) := by
    show IntKind.u64.wrap ((BitVec.ofInt 64 (u : Int) &&& BitVec.ofInt 64 ((7 : Nat) : Int)).toNat : Int) = _
    rw [BitVec.toNat_and, ofInt_i64 u h, ofInt_i64 7 (by omega)]
    have := Nat.and_le_right (n := u) (m := 7)
    generalize u &&& 7 = z at this ⊢
    simp [IntKind.wrap, IntKind.signed, IntKind.bits]
    omega
  exact e.trans (by rw [show (7 : Nat) = 2 ^ 3 - 1 from rfl, Nat.and_two_pow_sub_one_eq_mod])
set_option maxHeartbeats 2000000 in
set_option maxRecDepth 100000 in
theorem formatBits8 (n : Nat) (w : World) (hn : n < 4611686018427387904) (hc : w.cell? ⟨5, 7, none⟩ = some (.int .u8 3)) :
    Calls Tryd.prog 88 #[.slice none 0 0, .int .u64 n, .int .i64 8, .bool false, .bool false] w (FB8 n w) := by
  have hMB : 5 < w.heap.size := World.block_lt_of_cell? _ _ hc
  go_enter Tryd.func88, Tryd.ntmps88
  go_wp2_with fail
  refine (pow8 _).mono ?_
  rintro e w' ⟨rfl, rfl⟩
  go_wp2_with fail
  refine (tz8 _ ?_).mono ?_
  · exact (World.cell?_alloc_lt _ _ _ hMB).trans hc
  rintro e w' ⟨rfl, rfl⟩
  go_wp2_with fail
  go_loopg [1, 13] 64 (fun gk uv iv wr => ∃ (j u : Nat) (A : Bs), gk = 64 - j ∧ j ≤ 20 ∧ u = n / 8 ^ j ∧ u < 4611686018427387904 ∧ (j = 0 ∨ 1 ≤ u) ∧ uv = .int .u64 u ∧ iv = .int .i64 (65 - j) ∧ Row65 w A wr ∧ A.drop (65 - j) = octs n j)
  case atStart => exact ⟨0, n, List.replicate 65 0, rfl, by omega, by simp, hn, .inl rfl, rfl, rfl, ⟨(Below.refl _ _).alloc (Nat.le_refl _) _, (heap_alloc_new _ _).trans (by rw [zero65]), by simp⟩, by simp [octs]⟩
  case round =>
    obtain ⟨j, u, A, hg, hj, hu, hub, hju, rfl, rfl, hR, hA⟩ := hrel
    have HJ := Lib.hid hju
    clear hju
    have HG := Lib.hid hg
    have HU := Lib.hid hu
    have HA := Lib.hid hA
    have HR := Lib.hid hR
    have ha7 := and7 u hub
    clear hg hu hA
    have hlen := hR.len
    have cc : ∃ v, wr.cell? ⟨w.heap.size, 65 - j - 1, none⟩ = some v := by
      rw [cell_of_row _ _ _ _ _ _ hR.row]
      exact ⟨_, Array.getElem?_eq_getElem (by simp [byteCells]; omega)⟩
    obtain ⟨cv, cc⟩ := cc
    have ff : ∀ i, wr.frozen? ⟨w.heap.size, i, none⟩ = false := fun i => by simp [World.frozen?, hR.row]
    have hlt : w.heap.size < wr.heap.size := (Array.getElem?_eq_some_iff.1 hR.row).1
    clear hR
    by_cases h8 : 8 ≤ u
    · have hd : digs36[u % 8]'(by have : digs36.size = 36 := rfl; omega) = UInt8.ofNat (48 + u % 8) := dig8 ⟨u % 8, Nat.mod_lt _ (by decide)⟩
      have HD := Lib.hid hd
      clear hd
      have hS := Lib.hid (show Row65 w (A.set (65 - j - 1) (UInt8.ofNat (48 + u % 8))) (wr.setCell ⟨w.heap.size, 65 - j - 1, none⟩ (.int .u8 (digs36[u % 8]'(by have : digs36.size = 36 := rfl; omega)).toNat)) by rw [HD.out]; exact HR.out.set _ _)
      have HA2 := Lib.hid (show (A.set (65 - j - 1) (UInt8.ofNat (48 + u % 8))).drop (65 - (j + 1)) = octs n (j + 1) by
        have e : 65 - (j + 1) = 65 - j - 1 := by omega
        rw [octs_succ, ← HU.out, e, set_drop (by omega), ← HA.out, show 65 - j - 1 + 1 = 65 - j by omega])
      have HU2 := Lib.hid (show u / 8 = n / 8 ^ (j + 1) by rw [Nat.pow_succ, ← Nat.div_div_eq_div_mul, ← HU.out])
      have hj2 := Lib.hid (pow_big hn (by rw [← HU.out]; exact h8))
      go_wp2_with fail
      go_roundg (64 - (j + 1))
      case rel => exact ⟨j + 1, u / 8, _, rfl, hj2.out, HU2.out, by omega, .inr (by omega), by go_num, by go_num, hS.out, HA2.out⟩
      case measure => have := HG.out; omega
    · have h0 : (0 : Int) ≤ 65 - (j : Int) - 1 := by omega
      have h1 : 65 - (j : Int) - 1 ≤ ((65 : Nat) : Int) := by omega
      have hsl := slice65 w.heap.size j (by omega)
      have hu8 := Lib.hid h8
      have hd : digs36[u]'(by have : digs36.size = 36 := rfl; have := hu8.out; omega) = UInt8.ofNat (48 + u) := dig8 ⟨u, by omega⟩
      have hS := Lib.hid (show Row65 w (A.set (65 - j - 1) (UInt8.ofNat (48 + u))) (wr.setCell ⟨w.heap.size, 65 - j - 1, none⟩ (.int .u8 (digs36[u]'(by have : digs36.size = 36 := rfl; have := hu8.out; omega)).toNat)) by rw [hd]; exact HR.out.set _ _)
      have HA2 := Lib.hid (show (A.set (65 - j - 1) (UInt8.ofNat (48 + u))).drop (65 - j - 1) = octs n (j + 1) by
        rw [octs_succ, ← HU.out, Nat.mod_eq_of_lt (by omega), set_drop (by omega), ← HA.out, show 65 - j - 1 + 1 = 65 - j by omega])
      have HK := Lib.hid (show n < 8 ^ (j + 1) ∧ (j = 0 ∨ 8 ^ j ≤ n) by
        have hu := HU.out
        refine ⟨?_, ?_⟩
        · rw [Nat.pow_succ, Nat.mul_comm]; exact (Nat.div_lt_iff_lt_mul (Nat.pow_pos (by decide))).1 (by omega)
        · rcases HJ.out with h | h
          · exact .inl h
          · right
            refine Nat.le_of_not_lt fun hlt => ?_
            rw [Nat.div_eq_of_lt hlt] at hu
            omega)
      clear hd
      go_wp2_with fail
      have hS1 := hS.out
      unfold digs36 at hS1
      rw [conv65 hS1 HA2.out (by omega)]
      simp only [Result.andThen]
      rw [Oper.upon_value]
      go_wp2_with fail
      go_ret2
      exact ⟨_, rfl, ⟨j + 1, by omega, by omega, HK.out.1, by rw [Nat.add_sub_cancel]; exact HK.out.2.elim (fun h => .inl (by omega)) .inr, rfl⟩, hS1.bel⟩
def FmtR (n : Nat) (w : World) (e : Ending) (w' : World) : Prop := ∃ s : ByteArray, e = .returned (.string s) ∧ OctS n s ∧ Below w.heap.size w w'
theorem u64_wrap {n : Nat} (h : n < 4611686018427387904) : IntKind.u64.wrap (n : Int) = n := by simp [IntKind.wrap, IntKind.signed, IntKind.bits]; omega
set_option maxRecDepth 100000 in
theorem formatInt8i (n : Nat) (w : World) (hn : n < 4611686018427387904) (hc : w.cell? ⟨5, 7, none⟩ = some (.int .u8 3)) :
    Calls Tryd.prog 79 #[.int .i64 n, .int .i64 8] w (FmtR n w) := by
  have C := Lib.hid (formatBits8 n w hn hc)
  have hw := u64_wrap hn
  go_enter Tryd.func79, Tryd.ntmps79
  go_wp2_with fail
  refine C.out.mono ?_
  rintro e w' ⟨s, rfl, hs, hb⟩
  have HS := Lib.hid hs
  have HB := Lib.hid hb
  clear hs hb
  go_wp2_with fail
  go_ret
  exact ⟨s, rfl, HS.out, HB.out⟩
theorem formatInt8 (n : Nat) (w : World) (hn : n < 4611686018427387904) (hc : w.cell? ⟨5, 7, none⟩ = some (.int .u8 3)) :
    Calls Tryd.prog 69 #[.int .i64 n, .int .i64 8] w (FmtR n w) := by
  have C := Lib.hid (formatInt8i n w hn hc)
  go_enter Tryd.func69, Tryd.ntmps69
  go_wp2_with fail
  refine C.out.mono ?_
  rintro e w' ⟨s, rfl, hs, hb⟩
  have HS := Lib.hid hs
  have HB := Lib.hid hb
  clear hs hb
  go_wp2_with fail
  go_ret
  exact ⟨s, rfl, HS.out, HB.out⟩
theorem bl_append' (a b : ByteArray) : bl (a ++ b) = bl a ++ bl b := Go.Joins.data_append a b
theorem octs_lead : ∀ (j k n : Nat), n < 8 ^ k → octs n (k + j) = List.replicate j 48 ++ octs n k
  | 0, k, n, _ => by simp
  | j + 1, k, n, h => by
    have e : n / 8 ^ (k + j) = 0 := Nat.div_eq_of_lt (Nat.lt_of_lt_of_le h (Nat.pow_le_pow_right (by decide) (Nat.le_add_right _ _)))
    rw [← Nat.add_assoc, octs_succ, octs_lead j k n h, e, List.replicate_succ]; rfl
theorem repeatL_one (c : UInt8) : ∀ n, Lib.repeatL [c] n = List.replicate n c
  | 0 => rfl
  | n + 1 => by rw [List.replicate_succ, ← repeatL_one c n]; rfl
/-- strings.Repeat of one byte -/
def RepR (c : UInt8) (k : Nat) (W : World) (e : Ending) (W' : World) : Prop := ∃ R : ByteArray, e = .returned (.string R) ∧ bl R = List.replicate k c ∧ Below W.heap.size W W'
theorem repeat_any (c : UInt8) (k : Nat) (W : World) (hk : k ≤ 1073741824) : Calls Tryd.prog 25 #[.string ⟨#[c]⟩, .int .i64 k] W (RepR c k W) := by
  refine (Tryd.strings_Repeat ⟨#[c]⟩ k W (by omega) (by show 1 * _ ≤ _; omega)).mono ?_
  rintro e W2 ⟨rfl, hb2⟩
  exact ⟨_, rfl, repeatL_one c k, hb2⟩
/-- a number in a field -/
def OctR (m n : Nat) (W : World) (e : Ending) (W' : World) : Prop := ∃ s : ByteArray, e = .returned (.string s) ∧ bl s = octs n (m - 1) ++ [0] ∧ Below W.heap.size W W'
theorem octS_pad {n m : Nat} {s : ByteArray} (h : OctS n s) (hn : n < 8 ^ (m - 1)) (hm : 2 ≤ m) : s.size ≤ m - 1 ∧ List.replicate (m - 1 - s.size) 48 ++ bl s = octs n (m - 1) := by
  obtain ⟨k, h1, h2, h3, h4, h5⟩ := h
  have hs : s.size = k := by rw [← bl_length, h5, octs_len]
  have hk : k ≤ m - 1 := by
    rcases h4 with h | h
    · omega
    · have := (Nat.pow_lt_pow_iff_right (a := 8) (by decide)).1 (Nat.lt_of_le_of_lt h hn)
      omega
  refine ⟨by omega, ?_⟩
  rw [hs, h5, ← octs_lead (m - 1 - k) k n h3]
  congr 1; omega
set_option maxRecDepth 100000 in
theorem octal_any (a m n : Nat) (W : World) (hm : 2 ≤ m) (hm2 : m ≤ 20) (hn : n < 8 ^ (m - 1)) (hc : W.cell? ⟨5, 7, none⟩ = some (.int .u8 3)) :
    Calls Tryd.prog 49 #[.agg #[.int .i64 a, .int .i64 m], .int .i64 n] W (OctR m n W) := by
  have hMB : 5 < W.heap.size := World.block_lt_of_cell? _ _ hc
  have h60 : n < 4611686018427387904 := Nat.lt_of_lt_of_le hn (Nat.le_trans (Nat.pow_le_pow_right (by decide) (show m - 1 ≤ 20 by omega)) (by decide))
  have HN := Lib.hid hn
  have C := Lib.hid (fun W (h : W.cell? ⟨5, 7, none⟩ = some (.int .u8 3)) => formatInt8 n W h60 h)
  clear hn
  go_enter Tryd.func49, Tryd.ntmps49
  go_wp2_with fail
  have hB0 : Below W.heap.size W (W.alloc (.cells #[.int .i64 a, .int .i64 m] 87)) := (Below.refl _ _).alloc (Nat.le_refl _) _
  have hR0 : (W.alloc (.cells #[.int .i64 a, .int .i64 m] 87)).heap[W.heap.size]? = some (.cells #[.int .i64 a, .int .i64 m] 87 (0, 0)) := heap_alloc_new _ _
  refine (C.out _ ((World.cell?_alloc_lt _ _ _ hMB).trans hc)).mono ?_
  rintro e W1 ⟨s, rfl, hs, hb⟩
  obtain ⟨hle, hpad⟩ := octS_pad hs HN.out hm
  have HP := Lib.hid hpad
  have hR1 := (hb.block _ (by simp)).trans hR0
  have c1 : W1.cell? ⟨W.heap.size, 1, none⟩ = some (.int .i64 m) := by rw [cell_of_row _ _ _ _ _ _ hR1]; rfl
  have HB := Lib.hid (hB0.trans (hb.mono (by simp)))
  have hlt : W.heap.size < W1.heap.size := by have := hb.size; simp at this; omega
  clear hs hpad hb hR0 hR1 hB0 hc C
  go_wp2_with fail
  have hcnt : (m : Int) - 1 - (s.size : Int) = ((m - 1 - s.size : Nat) : Int) := by omega
  rw [hcnt]
  refine (repeat_any 48 (m - 1 - s.size) _ (by omega)).mono ?_
  rintro e W2 ⟨R, rfl, hR, hb2⟩
  have hRs : R.size = m - 1 - s.size := by rw [← bl_length, hR, List.length_replicate]
  have hb1 : R.size ≤ 20 := by omega
  have hb3 : s.size ≤ 20 := by omega
  have HB2 := Lib.hid (HB.out.trans (hb2.mono HB.out.size))
  have HX := Lib.hid (show bl (R ++ s ++ ⟨#[0]⟩) = octs n (m - 1) ++ [0] by
    rw [bl_append', bl_append', ← HP.out, hR]; rfl)
  clear hcnt hb2 c1 hR hRs
  go_wp2_with fail
  go_ret
  exact ⟨_, rfl, HX.out, HB2.out⟩
end Tp
end Go.Proofs.YtiehjmjobcklmaaDoor
