/- Walks: a head. -/
import Derived.Test.YtiehjmjobcklmaaDoorTpV
import Derived.Test.YtiehjmjobcklmaaDoorTpR
import Derived.Deep.DeepCutAuto
namespace Go.Proofs.YtiehjmjobcklmaaDoor
open Go.RowKit Go.Shelf Go.Lib
namespace Tp
structure HInv (w0 : World) (nm lk dt : ByteArray) (kind : UInt8) (mode size time : Nat) (L : Bs) (w : World) : Prop where
  bel : Below w0.heap.size w0 w
  fc : w.heap[w0.heap.size]? = some (.cells #[.string nm, .string lk, .int .u8 kind.toNat, .int .i64 mode, .int .i64 size, .int .i64 time, .string dt] 36 (0, 0))
  row : ByteRow w (w0.heap.size + 1) L
  tz : w.cell? ⟨5, 7, none⟩ = some (.int .u8 3)
  mb : 5 < w0.heap.size
section
variable {w0 w w' : World} {nm lk dt : ByteArray} {kind : UInt8} {mode size time : Nat} {L L' : Bs}
theorem HInv.below (h : HInv w0 nm lk dt kind mode size time L w) (hb : Below w.heap.size w w') : HInv w0 nm lk dt kind mode size time L w' :=
  ⟨h.bel.trans (hb.mono h.bel.size), (hb.block _ (Array.getElem?_eq_some_iff.1 h.fc).1).trans h.fc, (hb.block _ (Array.getElem?_eq_some_iff.1 h.row).1).trans h.row, (hb.cell (World.block_lt_of_cell? _ _ h.tz)).trans h.tz, h.mb⟩
theorem HInv.drew (h : HInv w0 nm lk dt kind mode size time L w) : HInv w0 nm lk dt kind mode size time L w.drew := ⟨h.bel.drew, h.fc, h.row, h.tz, h.mb⟩
theorem HInv.lay (h : HInv w0 nm lk dt kind mode size time L w) (hr : ByteRow w' (w0.heap.size + 1) L') (hg : w.grownBy w' (some (w0.heap.size + 1))) : HInv w0 nm lk dt kind mode size time L' w' := by
  have hlt := (Array.getElem?_eq_some_iff.1 h.fc).1
  have htz : 5 < w.heap.size := World.block_lt_of_cell? _ _ h.tz
  have hne : some 5 ≠ some (w0.heap.size + 1) := fun e => by
    injection e with e; have := h.mb; omega
  exact ⟨h.bel.grown hg h.bel.size (fun k e => by injection e with e; omega), (hg.block _ hlt (fun e => by injection e with e; omega)).trans h.fc, hr, (World.cell?_of_block (w := w) (hg.block _ htz hne)).trans h.tz, h.mb⟩
theorem lay_one {L : Bs} {p : Nat} {c : UInt8} (h : p < L.length) : layB L p 1 [c] = L.set p c := by
  rw [List.set_eq_take_append_cons_drop, if_pos h]; simp [layB]
theorem HInv.putKind (h : HInv w0 nm lk dt kind mode size time L w) : HInv w0 nm lk dt kind mode size time (L.set 156 kind) (w.setCell ⟨w0.heap.size + 1, 156, none⟩ (.int .u8 kind.toNat)) := by
  refine h.lay ?_ ⟨rfl, rfl, rfl, by simp [World.setCell], fun k _ hk => Below.heap_setCell _ _ _ _ (fun e => hk (by simp at e; rw [e]))⟩
  have e : (byteCells L).toArray.setIfInBounds 156 (.int .u8 kind.toNat) = (byteCells (L.set 156 kind)).toArray := by
    rw [List.setIfInBounds_toArray, byteCells, byteCells, List.map_set]
  unfold ByteRow
  rw [← e]
  exact block_set' h.row _ _
theorem HInv.cast (h : HInv w0 nm lk dt kind mode size time L w) (e : L = L') : HInv w0 nm lk dt kind mode size time L' w := by subst e; exact h
theorem HInv.c0 (h : HInv w0 nm lk dt kind mode size time L w) : w.cell? ⟨w0.heap.size, 0, none⟩ = some (.string nm) := by rw [cell_of_row _ _ _ _ _ _ h.fc]; rfl
theorem HInv.c1 (h : HInv w0 nm lk dt kind mode size time L w) : w.cell? ⟨w0.heap.size, 1, none⟩ = some (.string lk) := by rw [cell_of_row _ _ _ _ _ _ h.fc]; rfl
theorem HInv.c2 (h : HInv w0 nm lk dt kind mode size time L w) : w.cell? ⟨w0.heap.size, 2, none⟩ = some (.int .u8 kind.toNat) := by rw [cell_of_row _ _ _ _ _ _ h.fc]; rfl
theorem HInv.c3 (h : HInv w0 nm lk dt kind mode size time L w) : w.cell? ⟨w0.heap.size, 3, none⟩ = some (.int .i64 mode) := by rw [cell_of_row _ _ _ _ _ _ h.fc]; rfl
theorem HInv.c4 (h : HInv w0 nm lk dt kind mode size time L w) : w.cell? ⟨w0.heap.size, 4, none⟩ = some (.int .i64 size) := by rw [cell_of_row _ _ _ _ _ _ h.fc]; rfl
theorem HInv.c5 (h : HInv w0 nm lk dt kind mode size time L w) : w.cell? ⟨w0.heap.size, 5, none⟩ = some (.int .i64 time) := by rw [cell_of_row _ _ _ _ _ _ h.fc]; rfl
end
theorem conv_row {W : World} {g : Nat} {L : Bs} (h : ByteRow W g L) (hl : L.length = 512) : (convert 62 9 (.slice (some ⟨g, 0, none⟩) 512 512)).run Tryd.prog W = .ok (.string ⟨L.toArray⟩) W := by
  have key := run_convert_bytes_back (P := Tryd.prog) W 62 9 5 ⟨g, 0, none⟩ 512 L Tryd.underlying62 Tryd.underlying5 Tryd.underlying9 (fun i hi => by
    rw [add_zero_block, cell_of_row _ _ _ _ _ _ h, List.getElem?_toArray, byteCells, List.getElem?_map, List.getElem?_eq_getElem hi]
    rfl)
  rw [hl] at key
  exact key
def zeros512 : Array Value := (byteCells (List.replicate 512 0)).toArray
theorem make512 (W : World) : (Instr.makeSlice 62 (.int .i64 512) (.int .i64 512)).run Tryd.prog W = .ok (.slice (some ⟨W.heap.size, 0, none⟩) 512 512) (W.alloc (.cells zeros512 5)) := by
  obtain ⟨i0, hi, hz0, hz1, hz2⟩ := info_parts infoByte
  have key := run_makeSlice (P := Tryd.prog) W 62 5 i0 (.int .u8 0) Tryd.underlying62 hi hz0 .i64 .i64 512 512 (by decide) (by decide) (by rw [hz1]; decide) (by rw [hz2]; decide) (by decide)
  have hz : madeCells (Value.int IntKind.u8 0).cells 512 = zeros512 := by kernel_rfl
  rw [key, hz1, ← hz]
  rfl
theorem bl_mk (L : Bs) : bl ⟨L.toArray⟩ = L := by simp [bl]
def h0 (_F : FileM) : Bs := List.replicate 512 0
theorem h0_len (F : FileM) : (h0 F).length = 512 := List.length_replicate
theorem HInv.start (w : World) (nm lk dt : ByteArray) (kind : UInt8) (mode size time : Nat) (hc : w.cell? ⟨5, 7, none⟩ = some (.int .u8 3)) (F : FileM) :
    HInv w nm lk dt kind mode size time (h0 F) ((w.alloc (.cells #[.string nm, .string lk, .int .u8 kind.toNat, .int .i64 mode, .int .i64 size, .int .i64 time, .string dt] 36)).alloc (.cells zeros512 5)) := by
  have hMB : 5 < w.heap.size := World.block_lt_of_cell? _ _ hc
  refine ⟨((Below.refl _ _).alloc (Nat.le_refl _) _).alloc (by simp) _, (Below.heap_alloc _ _ _ (by simp)).trans (heap_alloc_new _ _), ?_, ?_, hMB⟩
  · have h := heap_alloc_new (w.alloc (.cells #[.string nm, .string lk, .int .u8 kind.toNat, .int .i64 mode, .int .i64 size, .int .i64 time, .string dt] 36)) (.cells zeros512 5)
    rw [World.size_alloc] at h
    exact h
  · exact (World.cell?_alloc_lt _ _ _ (by simp; omega)).trans ((World.cell?_alloc_lt _ _ _ hMB).trans hc)
def HeadStr (F : FileM) (w : World) (e : Ending) (w' : World) : Prop := ∃ s : ByteArray, e = .returned (.string s) ∧ bl s = headB F ∧ Below w.heap.size w w'
set_option maxRecDepth 100000 in
set_option maxHeartbeats 4000000 in
theorem headOf_any (nm lk dt : ByteArray) (kind : UInt8) (mode size time : Nat) (w : World) (hm : mode < 2097152) (hs : size < 8589934592) (ht : time < 8589934592)
    (hc : w.cell? ⟨5, 7, none⟩ = some (.int .u8 3)) :
    Calls Tryd.prog 23 #[.agg #[.string nm, .string lk, .int .u8 kind.toNat, .int .i64 mode, .int .i64 size, .int .i64 time, .string dt]] w (HeadStr ⟨bl nm, bl lk, kind, mode, size, time, bl dt⟩ w) := by
  have hMB : 5 < w.heap.size := World.block_lt_of_cell? _ _ hc
  obtain ⟨F, hF⟩ : ∃ F : FileM, F = ⟨bl nm, bl lk, kind, mode, size, time, bl dt⟩ := ⟨_, rfl⟩
  rw [← hF]
  have HM := Lib.hid hm
  have HS := Lib.hid hs
  have HT := Lib.hid ht
  have HF := Lib.hid hF
  clear hm hs ht hF
  go_enter Tryd.func23, Tryd.ntmps23
  have hmk := make512
  go_upto_region 2 with fail
  have hI : HInv w nm lk dt kind mode size time (h0 F) ((w.alloc (.cells #[.string nm, .string lk, .int .u8 kind.toNat, .int .i64 mode, .int .i64 size, .int .i64 time, .string dt] 36)).alloc (.cells zeros512 5)) := HInv.start w nm lk dt kind mode size time hc F
  clear hmk hc
  revert hI
  generalize ((w.alloc (.cells #[.string nm, .string lk, .int .u8 kind.toNat, .int .i64 mode, .int .i64 size, .int .i64 time, .string dt] 36)).alloc (.cells zeros512 5)) = wb
  intro hI
  go_upto_region 2 with fail
  go_cut [12] (fun _ wx => HInv w nm lk dt kind mode size time (h1 F) wx)
  case first => as_aux_lemma =>
    have c0 := hI.c0
    have c1 := hI.c1
    have c2 := hI.c2
    have c3 := hI.c3
    have c4 := hI.c4
    have c5 := hI.c5
    have h4 := hI.drew
    go_region_with (first | (go_at_call 46; refine (name_any _).mono ?_; rintro e w4 ⟨rfl, hb4⟩; replace h4 := h4.below hb4; have c0 := h4.c0; have c1 := h4.c1; have c3 := h4.c3; have c4 := h4.c4; have c5 := h4.c5) | (go_at_call 47; refine (lay_span _ _ 0 100 nm _ (h0_len F) h4.row (by omega) (by omega)).mono ?_; rintro e w5 ⟨rfl, hr5, hg5⟩; replace h4 := h4.lay hr5 hg5))
    all_goals
      go_wp2_with fail
      go_meet
      exact h4.cast (by rw [h1, HF.out]; rfl)
  case rest =>
  replace hI := hcut
  clear hcut
  go_upto_region 3 with fail
  go_cut [19] (fun _ wx => HInv w nm lk dt kind mode size time (h2 F) wx)
  case first => as_aux_lemma =>
    have c0 := hI.c0
    have c1 := hI.c1
    have c2 := hI.c2
    have c3 := hI.c3
    have c4 := hI.c4
    have c5 := hI.c5
    have h4 := hI.drew
    go_region_with (first | (go_at_call 48; refine (mode_any _).mono ?_; rintro e w4 ⟨rfl, hb4⟩; replace h4 := h4.below hb4; have c0 := h4.c0; have c1 := h4.c1; have c3 := h4.c3; have c4 := h4.c4; have c5 := h4.c5) | (go_at_call 49; refine (octal_any 100 8 mode _ (by omega) (by omega) (Nat.lt_of_lt_of_le HM.out (by decide)) h4.tz).mono ?_; rintro e w4 ⟨s4, rfl, hs4, hb4⟩; replace h4 := h4.below hb4; have HS4 := Lib.hid hs4; clear hs4) | (go_at_call 47; refine (lay_span _ _ 100 8 s4 _ (h1_len F) h4.row (by omega) (by omega)).mono ?_; rintro e w5 ⟨rfl, hr5, hg5⟩; replace h4 := h4.lay hr5 hg5))
    all_goals
      go_wp2_with fail
      go_meet
      exact h4.cast (by rw [HS4.out, h2, HF.out]; rfl)
  case rest =>
  replace hI := hcut
  clear hcut
  go_upto_region 4 with fail
  go_cut [24] (fun _ wx => HInv w nm lk dt kind mode size time (h3 F) wx)
  case first => as_aux_lemma =>
    have c0 := hI.c0
    have c1 := hI.c1
    have c2 := hI.c2
    have c3 := hI.c3
    have c4 := hI.c4
    have c5 := hI.c5
    have h4 := hI
    go_wp2_with fail
    refine (mode_any _).mono ?_; rintro e w4 ⟨rfl, hb4⟩; replace h4 := h4.below hb4; have c0 := h4.c0; have c1 := h4.c1; have c3 := h4.c3; have c4 := h4.c4; have c5 := h4.c5
    go_wp2_with fail
    refine (octal_any 100 8 0 _ (by omega) (by omega) (by decide) h4.tz).mono ?_; rintro e w4 ⟨s4, rfl, hs4, hb4⟩; replace h4 := h4.below hb4; have HS4 := Lib.hid hs4; clear hs4
    go_wp2_with fail
    refine (lay_span _ _ 108 8 s4 _ (h2_len F) h4.row (by omega) (by omega)).mono ?_; rintro e w5 ⟨rfl, hr5, hg5⟩; replace h4 := h4.lay hr5 hg5
    go_wp2_with fail
    go_meet
    exact h4.cast (by rw [HS4.out, h3, HF.out]; rfl)
  case rest =>
  replace hI := hcut
  clear hcut
  go_upto_region 5 with fail
  go_cut [29] (fun _ wx => HInv w nm lk dt kind mode size time (h4 F) wx)
  case first => as_aux_lemma =>
    have c0 := hI.c0
    have c1 := hI.c1
    have c2 := hI.c2
    have c3 := hI.c3
    have c4 := hI.c4
    have c5 := hI.c5
    have h4 := hI
    go_wp2_with fail
    refine (mode_any _).mono ?_; rintro e w4 ⟨rfl, hb4⟩; replace h4 := h4.below hb4; have c0 := h4.c0; have c1 := h4.c1; have c3 := h4.c3; have c4 := h4.c4; have c5 := h4.c5
    go_wp2_with fail
    refine (octal_any 100 8 0 _ (by omega) (by omega) (by decide) h4.tz).mono ?_; rintro e w4 ⟨s4, rfl, hs4, hb4⟩; replace h4 := h4.below hb4; have HS4 := Lib.hid hs4; clear hs4
    go_wp2_with fail
    refine (lay_span _ _ 116 8 s4 _ (h3_len F) h4.row (by omega) (by omega)).mono ?_; rintro e w5 ⟨rfl, hr5, hg5⟩; replace h4 := h4.lay hr5 hg5
    go_wp2_with fail
    go_meet
    exact h4.cast (by rw [HS4.out, Tp.h4, HF.out]; rfl)
  case rest =>
  replace hI := hcut
  clear hcut
  go_upto_region 6 with fail
  go_cut [36] (fun _ wx => HInv w nm lk dt kind mode size time (h5 F) wx)
  case first => as_aux_lemma =>
    have c0 := hI.c0
    have c1 := hI.c1
    have c2 := hI.c2
    have c3 := hI.c3
    have c4 := hI.c4
    have c5 := hI.c5
    have h4 := hI.drew
    go_region_with (first | (go_at_call 38; refine (size_any _).mono ?_; rintro e w4 ⟨rfl, hb4⟩; replace h4 := h4.below hb4; have c0 := h4.c0; have c1 := h4.c1; have c3 := h4.c3; have c4 := h4.c4; have c5 := h4.c5) | (go_at_call 49; refine (octal_any 124 12 size _ (by omega) (by omega) (Nat.lt_of_lt_of_le HS.out (by decide)) h4.tz).mono ?_; rintro e w4 ⟨s4, rfl, hs4, hb4⟩; replace h4 := h4.below hb4; have HS4 := Lib.hid hs4; clear hs4) | (go_at_call 47; refine (lay_span _ _ 124 12 s4 _ (h4_len F) h4.row (by omega) (by omega)).mono ?_; rintro e w5 ⟨rfl, hr5, hg5⟩; replace h4 := h4.lay hr5 hg5))
    all_goals
      go_wp2_with fail
      go_meet
      exact h4.cast (by rw [HS4.out, h5, HF.out]; rfl)
  case rest =>
  replace hI := hcut
  clear hcut
  go_upto_region 7 with fail
  go_cut [43] (fun _ wx => HInv w nm lk dt kind mode size time (h6 F) wx)
  case first => as_aux_lemma =>
    have c0 := hI.c0
    have c1 := hI.c1
    have c2 := hI.c2
    have c3 := hI.c3
    have c4 := hI.c4
    have c5 := hI.c5
    have h4 := hI.drew
    go_region_with (first | (go_at_call 40; refine (time_any _).mono ?_; rintro e w4 ⟨rfl, hb4⟩; replace h4 := h4.below hb4; have c0 := h4.c0; have c1 := h4.c1; have c3 := h4.c3; have c4 := h4.c4; have c5 := h4.c5) | (go_at_call 49; refine (octal_any 136 12 time _ (by omega) (by omega) (Nat.lt_of_lt_of_le HT.out (by decide)) h4.tz).mono ?_; rintro e w4 ⟨s4, rfl, hs4, hb4⟩; replace h4 := h4.below hb4; have HS4 := Lib.hid hs4; clear hs4) | (go_at_call 47; refine (lay_span _ _ 136 12 s4 _ (h5_len F) h4.row (by omega) (by omega)).mono ?_; rintro e w5 ⟨rfl, hr5, hg5⟩; replace h4 := h4.lay hr5 hg5))
    all_goals
      go_wp2_with fail
      go_meet
      exact h4.cast (by rw [HS4.out, h6, HF.out]; rfl)
  case rest =>
  replace hI := hcut
  clear hcut
  go_upto_region 8 with fail
  have c2 := hI.c2
  have rx : ∃ v, wc.cell? ⟨w.heap.size + 1, 156, none⟩ = some v := by
    rw [cell_of_row _ _ _ _ _ _ hI.row]
    exact ⟨_, Array.getElem?_eq_getElem (by rw [List.size_toArray, byteCells_length, h6_len]; omega)⟩
  obtain ⟨rv, rx⟩ := rx
  have rf : ∀ i, wc.frozen? ⟨w.heap.size + 1, i, none⟩ = false := fun i => by have := hI.row; unfold ByteRow at this; simp [World.frozen?, this]
  have hI7 := hI.putKind
  have hI7 := Lib.hid (hI7.cast (L' := h7 F) (by rw [h7, lay_one (by rw [h6_len]; omega), HF.out]))
  go_upto_region 9 with fail
  have hI := hI7.out
  clear hI7 c2 rx rf
  revert hI
  generalize wc.setCell ⟨w.heap.size + 1, 156, none⟩ (.int .u8 kind.toNat) = wk
  intro hI
  go_upto_region 9 with fail
  go_cut [52] (fun _ wx => HInv w nm lk dt kind mode size time (h8 F) wx)
  case first => as_aux_lemma =>
    have c0 := hI.c0
    have c1 := hI.c1
    have c2 := hI.c2
    have c3 := hI.c3
    have c4 := hI.c4
    have c5 := hI.c5
    have h4 := hI.drew
    go_region_with (first | (go_at_call 50; refine (link_any _).mono ?_; rintro e w4 ⟨rfl, hb4⟩; replace h4 := h4.below hb4; have c0 := h4.c0; have c1 := h4.c1; have c3 := h4.c3; have c4 := h4.c4; have c5 := h4.c5) | (go_at_call 47; refine (lay_span _ _ 157 100 lk _ (h7_len F) h4.row (by omega) (by omega)).mono ?_; rintro e w5 ⟨rfl, hr5, hg5⟩; replace h4 := h4.lay hr5 hg5))
    all_goals
      go_wp2_with fail
      go_meet
      exact h4.cast (by rw [h8, HF.out])
  case rest =>
  replace hI := hcut
  clear hcut
  go_upto_region 10 with fail
  go_cut [55] (fun _ wx => HInv w nm lk dt kind mode size time (h9 F) wx)
  case first => as_aux_lemma =>
    have c0 := hI.c0
    have c1 := hI.c1
    have c2 := hI.c2
    have c3 := hI.c3
    have c4 := hI.c4
    have c5 := hI.c5
    have h4 := hI
    go_wp2_with fail
    refine (lay_span _ _ 257 8 ⟨#[117, 115, 116, 97, 114, 0, 48, 48]⟩ _ (h8_len F) h4.row (by omega) (by omega)).mono ?_; rintro e w5 ⟨rfl, hr5, hg5⟩; replace h4 := h4.lay hr5 hg5
    go_wp2_with fail
    go_meet
    exact h4.cast rfl
  case rest =>
  replace hI := hcut
  clear hcut
  go_upto_region 11 with fail
  go_cut [58] (fun _ wx => HInv w nm lk dt kind mode size time (headL F) wx)
  case first => as_aux_lemma =>
    have c0 := hI.c0
    have c1 := hI.c1
    have c2 := hI.c2
    have c3 := hI.c3
    have c4 := hI.c4
    have c5 := hI.c5
    have h4 := hI
    go_wp2_with fail
    refine (sum_any _).mono ?_; rintro e w4 ⟨rfl, hb4⟩; replace h4 := h4.below hb4; have c0 := h4.c0; have c1 := h4.c1; have c3 := h4.c3; have c4 := h4.c4; have c5 := h4.c5
    go_wp2_with fail
    refine (lay_span _ _ 148 8 ⟨#[32, 32, 32, 32, 32, 32, 32, 32]⟩ _ (h9_len F) h4.row (by omega) (by omega)).mono ?_; rintro e w5 ⟨rfl, hr5, hg5⟩; replace h4 := h4.lay hr5 hg5
    go_wp2_with fail
    go_meet
    exact h4.cast rfl
  case rest =>
  replace hI := hcut
  clear hcut
  go_wp2_with fail
  obtain ⟨L, hLd⟩ : ∃ L, L = headL F := ⟨_, rfl⟩
  have hL : L.length = 512 := by rw [hLd]; exact headL_len F
  rw [← hLd] at hI
  have hsb := sum_bound F
  rw [← hLd] at hsb
  have HLD := Lib.hid hLd
  have HL := Lib.hid hL
  have HSB0 := Lib.hid hsb
  clear hLd hsb hL
  have HI := Lib.hid hI
  have hcel : ∀ k (h : k < 512), wc.cell? ⟨w.heap.size + 1, k, none⟩ = some (.int .u8 ((L[k]'(by have := HL.out; omega)).toNat : Int)) := fun k h => by
    rw [cell_of_row _ _ _ _ _ _ hI.row, List.getElem?_toArray, byteCells, List.getElem?_map, List.getElem?_eq_getElem (by have := HL.out; omega)]; rfl
  have HC := Lib.hid hcel
  clear hI hcel
  go_loopg [4, 61] 512 (fun gk sv iv wr => ∃ k m : Nat, gk = 512 - k ∧ k ≤ 512 ∧ m ≤ 256 * k ∧ iv = .int .i64 k ∧ sv = .int .i64 m ∧ m = sumB (L.take k) ∧ wc = wr)
  case atStart => exact ⟨0, 0, rfl, by omega, by omega, rfl, rfl, by simp [sumB], rfl⟩
  case round =>
    obtain ⟨k, m, hg, hk, hm, rfl, rfl, hsum, rfl⟩ := hrel
    have HG := Lib.hid hg
    have HSUM := Lib.hid hsum
    clear hg hsum
    by_cases hk5 : k < 512
    · have hc := HC.out k hk5
      have hb8 := (L[k]'(by have := HL.out; omega)).toNat_lt
      have HST := Lib.hid (show m + (L[k]'(by have := HL.out; omega)).toNat = sumB (L.take (k + 1)) by
        rw [List.take_succ_eq_append_getElem (by have := HL.out; omega), sumB_append, ← HSUM.out]; simp [sumB])
      obtain ⟨x, hx⟩ : ∃ x, x = (L[k]'(by have := HL.out; omega)).toNat := ⟨_, rfl⟩
      rw [← hx] at hc hb8 HST
      clear hx
      go_wp2_with fail
      go_roundg (512 - (k + 1))
      case rel => exact ⟨k + 1, m + x, rfl, by omega, by omega, by go_num, by go_num, HST.out, rfl⟩
      case measure => have := HG.out; omega
    · have hk512 : k = 512 := by omega
      subst hk512
      have hms : m = sumB L := by rw [HSUM.out, List.take_of_length_le (by rw [HL.out]; omega)]
      have HMS := Lib.hid hms
      have hsb := HSB0.out
      rw [← hms] at hsb
      have HSB := Lib.hid hsb
      have hI := HI.out
      clear hms hsb HC hk5
      go_upto_region 18 with fail
      go_cut [76] from 59 to 78 (fun _ wx => HInv w nm lk dt kind mode size time (headB F) wx)
      case first => as_aux_lemma =>
        have h4 := hI
        go_wp2_with fail
        refine (sum_any _).mono ?_; rintro e w4 ⟨rfl, hb4⟩; replace h4 := h4.below hb4; have c0 := h4.c0; have c1 := h4.c1; have c3 := h4.c3; have c4 := h4.c4; have c5 := h4.c5
        go_wp2_with fail
        refine (octal_any 0 7 m _ (by omega) (by omega) (Nat.lt_of_lt_of_le HSB.out (by decide)) h4.tz).mono ?_; rintro e w4 ⟨s4, rfl, hs4, hb4⟩; replace h4 := h4.below hb4; have HS4 := Lib.hid hs4; have hsz4 : s4.size ≤ 16 := (by have h9 := congrArg List.length hs4; rw [bl_length, List.length_append, octs_len] at h9; simp at h9; omega); clear hs4
        go_wp2_with fail
        refine (lay_span _ _ 148 8 (s4 ++ (⟨#[32]⟩ : ByteArray)) _ HL.out h4.row (by omega) (by omega)).mono ?_; rintro e w5 ⟨rfl, hr5, hg5⟩; replace h4 := h4.lay hr5 hg5
        go_wp2_with fail
        go_meet
        exact h4.cast (by rw [bl_append', HS4.out, headB, ← HLD.out, ← HMS.out]; rfl)
      case rest =>
      replace hI := hcut
      clear hcut
      have hcv := conv_row hI.row (headB_len F)
      have HB := Lib.hid hI.bel
      go_wp2_with fail
      go_ret
      exact ⟨⟨(headB F).toArray⟩, rfl, bl_mk _, HB.out⟩
end Tp
end Go.Proofs.YtiehjmjobcklmaaDoor
