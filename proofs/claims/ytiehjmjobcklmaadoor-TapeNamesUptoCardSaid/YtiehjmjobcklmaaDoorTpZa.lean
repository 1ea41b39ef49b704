/- Walks: an archive is written: the loop over the files. -/
import Derived.Test.YtiehjmjobcklmaaDoorTpZ
namespace Go.Proofs.YtiehjmjobcklmaaDoor
open Go.RowKit Go.Shelf Go.Lib
namespace Tp
theorem bl_mk' (L : Bs) : bl ⟨L.toArray⟩ = L := by simp [bl]
theorem goodC_zero {nm lk dt : Bs} {kind : UInt8} {mode size time : Int} (h : goodC nm lk dt kind mode size time = 0) : ¬ badA dt kind mode size time ∧ ¬ (256 < nm.length ∨ 256 < lk.length) ∧ ¬ badN nm lk := by
  by_cases h1 : badA dt kind mode size time
  · rw [goodC_1 h1] at h; omega
  by_cases h2 : 256 < nm.length ∨ 256 < lk.length
  · rw [goodC_2 h1 h2] at h; omega
  by_cases h3 : badN nm lk
  · rw [goodC_15 h1 h2 h3] at h; omega
  exact ⟨h1, h2, h3⟩
theorem code_zero {f : FileI} (h : f.code = 0) (hd : f.data.length < 8589934592) : GoodM f.toM ∧ f.mode = (f.toM.mode : Int) ∧ f.size = (f.toM.size : Int) ∧ f.time = (f.toM.time : Int) := by
  obtain ⟨h1, h2, h3⟩ := goodC_zero h
  have a1 : ¬ f.mode < 0 := fun e => h1 (.inl e)
  have a2 : ¬ 4095 < f.mode := fun e => h1 (.inr (.inl e))
  have a3 : ¬ f.time < 0 := fun e => h1 (.inr (.inr (.inl e)))
  have a4 : ¬ 4294967296 ≤ f.time := fun e => h1 (.inr (.inr (.inr (.inl e))))
  have a5 : ¬ f.kind.toNat < 48 := fun e => h1 (.inr (.inr (.inr (.inr (.inl e)))))
  have a6 : ¬ 54 < f.kind.toNat := fun e => h1 (.inr (.inr (.inr (.inr (.inr (.inl e))))))
  have a7 : ¬ f.size ≠ (f.data.length : Int) := fun e => h1 (.inr (.inr (.inr (.inr (.inr (.inr (.inl e)))))))
  have a8 : ¬ (f.data ≠ [] ∧ f.kind.toNat ≠ 48) := fun e => h1 (.inr (.inr (.inr (.inr (.inr (.inr (.inr e)))))))
  have a7 : f.size = (f.data.length : Int) := Classical.byContradiction a7
  refine ⟨⟨?_, ?_, ?_, ?_, ?_, ?_, ?_, ?_, ?_, ?_, ?_, hd⟩, ?_, ?_, ?_⟩
  · show f.mode.toNat ≤ 4095; omega
  · show f.time.toNat < 4294967296; omega
  · show 48 ≤ f.kind.toNat; omega
  · show f.kind.toNat ≤ 54; omega
  · show f.size.toNat = f.data.length; omega
  · intro hne
    have h48 : f.kind.toNat = 48 := Classical.byContradiction fun h => a8 ⟨hne, h⟩
    exact UInt8.toNat_inj.1 (h48.trans rfl)
  · show f.name.length ≤ 256; omega
  · show f.link.length ≤ 256; omega
  · exact fun e => h3 (.inl e)
  · exact fun c hc e => h3 (.inr (.inl (List.mem_append_left _ (e ▸ hc))))
  · exact fun c hc e => h3 (.inr (.inl (List.mem_append_right _ (e ▸ hc))))
  · show f.mode = ((f.mode.toNat : Nat) : Int); omega
  · show f.size = ((f.size.toNat : Nat) : Int); omega
  · show f.time = ((f.time.toNat : Nat) : Int); omega
theorem memB_len {f : FileM} (h : GoodM f) (hd : f.data.length ≤ 1073741824) : (memB f).length ≤ 1073750000 := by
  have h1 := paxB_len h.nl h.ll
  have h2 := fullB_len (paxB f)
  have h3 := fullB_len f.data
  unfold memB
  split
  · rw [List.length_append, List.length_append, headB_len, List.length_nil]; omega
  · simp only [List.length_append, headB_len]; omega
theorem bodyB_snoc (fs : List FileM) (f : FileM) : bodyB (fs ++ [f]) = bodyB fs ++ memB f := by simp [bodyB]
theorem head_pax (x : ByteArray) (w : World) (hx : x.size ≤ 600) (hg : GT w) : Calls Tryd.prog 23 #[.agg #[.string ⟨#[112, 97, 120]⟩, .string ⟨#[]⟩, .int .u8 120, .int .i64 0, .int .i64 x.size, .int .i64 0, .string ⟨#[]⟩]] w (StrR (headB (paxF (bl x))) w) := by
  refine (headOf_any ⟨#[112, 97, 120]⟩ ⟨#[]⟩ ⟨#[]⟩ 120 0 x.size 0 w (by omega) (by omega) (by omega) hg.tz).mono ?_
  rintro e w' ⟨s, rfl, hs, hb⟩
  refine ⟨s, rfl, hs.trans ?_, hb⟩
  rw [paxF, bl_length]; rfl
theorem builder_lt {T e : TypeId} {B b : Nat} {bs : List Value} {w : World} (h : Lib.IsBuilderF T e B b bs w) : b < w.heap.size := h.elim (fun h => h.lt) (fun h => h.lt)
def okW (fs : List FileI) : Prop := fs.length ≤ 1024 ∧ ∀ f ∈ fs, f.code = 0
open Classical in
def WriteR (fs : List FileI) (w : World) (e : Ending) (w' : World) : Prop :=
  Below w.heap.size w w' ∧ if okW fs then ∃ s : ByteArray, e = .returned (.tuple #[.string s, .int .i64 0]) ∧ bl s = writeB (fs.map FileI.toM)
    else ∃ c : Int, c ≠ 0 ∧ e = .returned (.tuple #[.string ⟨#[]⟩, .int .i64 c])
theorem WriteR.bad {fs : List FileI} {w w' : World} {c : Int} (h : ¬ okW fs) (hc : c ≠ 0) (hb : Below w.heap.size w w') : WriteR fs w (.returned (.tuple #[.string ⟨#[]⟩, .int .i64 c])) w' := by
  unfold WriteR; rw [if_neg h]; exact ⟨hb, c, hc, rfl⟩
theorem WriteR.fine {fs : List FileI} {w w' : World} {s : ByteArray} (h : okW fs) (hs : bl s = writeB (fs.map FileI.toM)) (hb : Below w.heap.size w w') : WriteR fs w (.returned (.tuple #[.string s, .int .i64 0])) w' := by
  unfold WriteR; rw [if_pos h]; exact ⟨hb, s, rfl, hs⟩
set_option maxRecDepth 100000 in
set_option maxHeartbeats 4000000 in
theorem write_any (fs : List FileI) (g cap : Nat) (w : World) (hn : fs.length ≤ 1048576) (hc : MemCellsI w g fs) (hd : ∀ f ∈ fs, f.data.length ≤ 1048576 ∧ f.name.length ≤ 1048576 ∧ f.link.length ≤ 1048576) (hg : GT w) :
    Calls Tryd.prog 10 #[.slice (some ⟨g, 0, none⟩) fs.length cap] w (WriteR fs w) := by
  have HC := Lib.hid hc
  have HD := Lib.hid hd
  have HGT := Lib.hid hg
  have h16 := hg.big
  clear hc hd hg
  by_cases h1024 : 1024 < fs.length
  · have hX := Lib.hid (show ¬ okW fs from fun h => by have := h.1; omega)
    have hb : (1024 : Int) < (fs.length : Int) := by omega
    clear h1024
    go_enter Tryd.func10, Tryd.ntmps10
    go_wp2_with fail
    go_ret2
    exact WriteR.bad hX.out (by decide) (Below.refl _ _)
  have hb1024 : (fs.length : Int) ≤ 1024 := by omega
  go_enter Tryd.func10, Tryd.ntmps10
  go_wp2_with fail
  go_loopg [14] fs.length (fun gk iv wr => ∃ j : Nat, gk = fs.length - j ∧ j ≤ fs.length ∧ iv = .int .i64 j ∧ (∀ f ∈ fs.take j, f.code = 0) ∧ Below w.heap.size w wr ∧ w.heap.size < wr.heap.size ∧ (bodyB ((fs.take j).map FileI.toM)).length ≤ 1073750000 * j ∧
    Lib.IsBuilderF 64 5 w.heap.size w.heap.size (byteCells (bodyB ((fs.take j).map FileI.toM))) wr)
  case atStart =>
    refine ⟨0, rfl, Nat.zero_le _, rfl, by simp, (Below.refl _ _).alloc (Nat.le_refl _) _, by simp, by simp [bodyB], .inl ⟨Nat.le_refl _, .slice none 0 0, heap_alloc_new _ _, World.ownsRowF_nil _ _ _ _, by simp [Value.ownBlock]⟩⟩
  case round =>
    obtain ⟨j, hgk, hj, rfl, hgood, hbel, hsz, hbl, hbld⟩ := hrel
    have HGK := Lib.hid hgk
    have HGD := Lib.hid hgood
    have HB := Lib.hid hbel
    have HBL := Lib.hid hbl
    have HBD := Lib.hid hbld
    clear hgk hgood hbel hbl hbld
    by_cases hlt : j < fs.length
    case neg =>
      have hjn : j = fs.length := by omega
      subst hjn
      have HOK := Lib.hid (show okW fs from ⟨by omega, by have := HGD.out; rwa [List.take_length] at this⟩)
      have hbd := HBD.out
      have hbl := HBL.out
      rw [List.take_length] at hbd hbl
      have HBD2 := Lib.hid hbd
      have HBL2 := Lib.hid hbl
      clear hlt hbd hbl
      go_wp2_with fail
      refine (repeat_any 0 1024 _ (by omega)).mono ?_
      rintro e w1 ⟨R, rfl, hR, hb1⟩
      have hRs : R.size = 1024 := by rw [← bl_length, hR, List.length_replicate]
      have HB1 := Lib.hid (HB.out.trans (hb1.mono HB.out.size))
      have hbd1 := builder_kept HBD2.out hb1
      have HR := Lib.hid hR
      clear hR hb1
      go_wp2_with fail
      refine (writeString_k _ _ _ R _ hbd1 (by rw [byteCells_length, hRs]; have := HBL2.out; omega) HB1.out.size).mono ?_
      rintro e w2 ⟨rfl, hbd2, hb2, _⟩
      have HB2 := Lib.hid (HB1.out.trans hb2)
      have e2 : byteCells (bodyB (fs.map FileI.toM)) ++ Lib.strCells R = byteCells (writeB (fs.map FileI.toM)) := by
        rw [Lib.strCells_eq, writeB, ← HR.out, byteCells, byteCells, byteCells, List.map_append]; rfl
      rw [e2] at hbd2
      have HBD3 := Lib.hid hbd2
      clear e2 hbd2 hb2 hbd1 hRs
      go_wp2_with fail
      refine (Tryd.Builder_String_any_f _ _ _ _ HBD3.out HB2.out.size).mono ?_
      rintro e w3 ⟨rfl, _, hb3⟩
      have HB3 := Lib.hid (HB2.out.trans hb3)
      clear hb3
      go_wp2_with fail
      go_ret2
      exact WriteR.fine HOK.out (bl_mk' _) HB3.out
    have hgl : g < w.heap.size := World.block_lt_of_cell? _ _ (HC.out j hlt).1
    obtain ⟨q0, q1, q2, q3, q4, q5, q6⟩ := HC.out j hlt
    have hfd := HD.out fs[j] (List.getElem_mem hlt)
    obtain ⟨f, hf⟩ : ∃ f, f = fs[j] := ⟨_, rfl⟩
    rw [← hf] at q0 q1 q2 q3 q4 q5 q6 hfd
    have HF := Lib.hid hf
    clear hf
    obtain ⟨nm, hnm⟩ : ∃ x : ByteArray, x = ⟨f.name.toArray⟩ := ⟨_, rfl⟩
    obtain ⟨lk, hlk⟩ : ∃ x : ByteArray, x = ⟨f.link.toArray⟩ := ⟨_, rfl⟩
    obtain ⟨dt, hdt⟩ : ∃ x : ByteArray, x = ⟨f.data.toArray⟩ := ⟨_, rfl⟩
    have r0 : wr.cell? ⟨g, j * 7, none⟩ = some (.string nm) := (HB.out.cell hgl).trans (q0.trans (by rw [hnm]; rfl))
    have r1 : wr.cell? ⟨g, j * 7 + 1, none⟩ = some (.string lk) := (HB.out.cell hgl).trans (q1.trans (by rw [hlk]; rfl))
    have r2 : wr.cell? ⟨g, j * 7 + 2, none⟩ = some (.int .u8 f.kind.toNat) := (HB.out.cell hgl).trans q2
    have r3 : wr.cell? ⟨g, j * 7 + 3, none⟩ = some (.int .i64 f.mode) := (HB.out.cell hgl).trans q3
    have r4 : wr.cell? ⟨g, j * 7 + 4, none⟩ = some (.int .i64 f.size) := (HB.out.cell hgl).trans q4
    have r5 : wr.cell? ⟨g, j * 7 + 5, none⟩ = some (.int .i64 f.time) := (HB.out.cell hgl).trans q5
    have r6 : wr.cell? ⟨g, j * 7 + 6, none⟩ = some (.string dt) := (HB.out.cell hgl).trans (q6.trans (by rw [hdt]; rfl))
    have HNM := Lib.hid (show bl nm = f.name by rw [hnm]; exact bl_mk' _)
    have HLK := Lib.hid (show bl lk = f.link by rw [hlk]; exact bl_mk' _)
    have HDT := Lib.hid (show bl dt = f.data by rw [hdt]; exact bl_mk' _)
    have C := Lib.hid (fun W => good_any nm lk dt f.kind f.mode f.size f.time W)
    have hcode : f.code = goodC (bl nm) (bl lk) (bl dt) f.kind f.mode f.size f.time := by rw [HNM.out, HLK.out, HDT.out]; rfl
    rw [← hcode] at C
    have hfd1 := hfd.1
    clear hnm hlk hdt q0 q1 q2 q3 q4 q5 q6 hcode hfd
    by_cases hz : f.code = 0
    case neg =>
      have hX := Lib.hid (show ¬ okW fs from fun h => hz (by rw [HF.out]; exact h.2 _ (List.getElem_mem hlt)))
      obtain ⟨c, hc⟩ : ∃ c : Nat, c = f.code := ⟨_, rfl⟩
      rw [← hc] at C hz
      have hcb : ((c : Int) != 0) = true := bne_iff_ne.2 (by omega)
      have HZ := Lib.hid hz
      clear hc hz
      go_wp2_with fail
      refine (C.out _).mono ?_
      rintro e w1 ⟨rfl, hb1⟩
      have HB1 := Lib.hid ((HB.out.alloc HB.out.size (.cells #[.string nm, .string lk, .int .u8 f.kind.toNat, .int .i64 f.mode, .int .i64 f.size, .int .i64 f.time, .string dt] 36)).trans (hb1.mono (by have := HB.out.size; simp; omega)))
      clear hb1
      go_wp2_with fail
      go_ret2
      exact WriteR.bad hX.out (by have := HZ.out; omega) HB1.out
    obtain ⟨hG, em, es, et⟩ := code_zero hz (by omega)
    obtain ⟨m, hm⟩ : ∃ m, m = f.toM.mode := ⟨_, rfl⟩
    obtain ⟨sz, hsz2⟩ : ∃ m, m = f.toM.size := ⟨_, rfl⟩
    obtain ⟨tm, htm⟩ : ∃ m, m = f.toM.time := ⟨_, rfl⟩
    have HFM := Lib.hid (show f.toM = ⟨bl nm, bl lk, f.kind, m, sz, tm, bl dt⟩ by rw [hm, hsz2, htm, HNM.out, HLK.out, HDT.out]; rfl)
    have hmb : m ≤ 4095 := by rw [hm]; exact hG.mode
    have hsb : sz ≤ 1048576 := by rw [hsz2, hG.size]; exact hfd1
    have htb : tm < 4294967296 := by rw [htm]; exact hG.time
    have hn256 : nm.size ≤ 256 := by rw [← bl_length, HNM.out]; exact hG.nl
    have hl256 : lk.size ≤ 256 := by rw [← bl_length, HLK.out]; exact hG.ll
    have hd20 : dt.size ≤ 1048576 := by rw [← bl_length, HDT.out]; exact hfd1
    rw [← hm] at em
    rw [← hsz2] at es
    rw [← htm] at et
    rw [em] at r3 C
    rw [es] at r4 C
    rw [et] at r5 C
    rw [hz] at C
    have HG := Lib.hid hG
    have HZ := Lib.hid hz
    have hk8 : f.kind.toNat < 256 := f.kind.toNat_lt
    obtain ⟨kind, hkind⟩ : ∃ k, k = f.kind := ⟨_, rfl⟩
    rw [← hkind] at r2 C HFM hk8
    clear em es et hm hsz2 htm hG hz hkind
    go_wp2_with fail
    refine (C.out _).mono ?_
    rintro e w1 ⟨rfl, hb1⟩
    have hI : WInv w w.heap.size wr.heap.size nm lk dt kind m sz tm (bodyB ((fs.take j).map FileI.toM)) w1 :=
      ⟨(HB.out.alloc HB.out.size (.cells #[.string nm, .string lk, .int .u8 kind.toNat, .int .i64 m, .int .i64 sz, .int .i64 tm, .string dt] 36)).trans (hb1.mono (by have := HB.out.size; simp; omega)), (hb1.block _ (by simp)).trans (heap_alloc_new _ _), by omega, builder_kept (HBD.out.alloc _) hb1⟩
    obtain ⟨X, hX⟩ : ∃ X, X = bodyB ((fs.take j).map FileI.toM) := ⟨_, rfl⟩
    rw [← hX] at hI
    have HX := Lib.hid hX
    have hXl : X.length ≤ 1073750000 * 1024 := by rw [hX]; have := HBL.out; omega
    generalize wr.heap.size = F at hI ⊢
    clear hb1 r0 r1 r2 r3 r4 r5 r6 hX C hfd1 hsz
    have c0 := hI.c0
    have c1 := hI.c1
    go_upto_if 26 with fail
    go_cut [8] (fun v wx => ∃ x : ByteArray, v = .string x ∧ bl x = paxP kPath (bl nm) ∧ x.size ≤ 300 ∧ WInv w w.heap.size F nm lk dt kind m sz tm X wx)
    case first => as_aux_lemma =>
      by_cases hl : 100 < nm.size
      · have hb : (100 : Int) < (nm.size : Int) := by omega
        have HP := Lib.hid (show paxP kPath (bl nm) = recordB kPath (bl nm) from if_pos (by rw [bl_length]; exact hl))
        have hrl : (recordB kPath (bl nm)).length ≤ 300 := by rw [recordB_len, bl_length]; show 4 + nm.size + 6 ≤ 300; omega
        have C := Lib.hid (fun W (h : GT W) => record_any ⟨#[112, 97, 116, 104]⟩ nm W (by show 97 ≤ 4 + nm.size; omega) (by show 4 + nm.size ≤ 300; omega) h)
        clear hl
        go_wp2_with fail
        refine (C.out _ (HGT.out.below hI.bel h16)).mono ?_
        rintro e w2 ⟨x, rfl, hx, hb2⟩
        have hxs : x.size ≤ 300 := by rw [← bl_length, hx]; exact hrl
        have HXX := Lib.hid (show bl (⟨#[]⟩ ++ x) = paxP kPath (bl nm) by rw [bl_append', HP.out, hx]; rfl)
        have HI2 := Lib.hid (hI.below hb2)
        have hxs2 : (⟨#[]⟩ ++ x : ByteArray).size ≤ 300 := by rw [← bl_length, HXX.out, HP.out]; exact hrl
        have HXS := Lib.hid hxs2
        clear hx hb2 hrl hxs2
        go_wp2_with fail
        go_meet
        exact ⟨_, rfl, HXX.out, HXS.out, HI2.out⟩
      · have hb : (nm.size : Int) ≤ 100 := by omega
        have HP := Lib.hid (show paxP kPath (bl nm) = [] from if_neg (by rw [bl_length]; exact hl))
        clear hl
        go_wp2_with fail
        go_meet
        exact ⟨_, rfl, HP.out.symm, Nat.zero_le _, hI⟩
    case rest =>
    obtain ⟨x1, rfl, hx1, hx1s, hI'⟩ := hcut
    have HX1 := Lib.hid hx1
    clear hx1 c0 c1 hI
    have hI := hI'
    clear hI'
    have c0 := hI.c0
    have c1 := hI.c1
    go_upto_if 35 with fail
    go_cut [8] (fun v wx => ∃ x : ByteArray, v = .string x ∧ bl x = paxB ⟨bl nm, bl lk, kind, m, sz, tm, bl dt⟩ ∧ x.size ≤ 600 ∧ WInv w w.heap.size F nm lk dt kind m sz tm X wx)
    case first => as_aux_lemma =>
      by_cases hl : 100 < lk.size
      · have hb : (100 : Int) < (lk.size : Int) := by omega
        have HP := Lib.hid (show paxP kLink (bl lk) = recordB kLink (bl lk) from if_pos (by rw [bl_length]; exact hl))
        have hrl : (recordB kLink (bl lk)).length ≤ 300 := by rw [recordB_len, bl_length]; show 8 + lk.size + 6 ≤ 300; omega
        have C := Lib.hid (fun W (h : GT W) => record_any ⟨#[108, 105, 110, 107, 112, 97, 116, 104]⟩ lk W (by show 97 ≤ 8 + lk.size; omega) (by show 8 + lk.size ≤ 300; omega) h)
        clear hl
        go_wp2_with fail
        refine (C.out _ (HGT.out.below hI.bel h16)).mono ?_
        rintro e w2 ⟨x, rfl, hx, hb2⟩
        have hxs : x.size ≤ 300 := by rw [← bl_length, hx]; exact hrl
        have HXX := Lib.hid (show bl (x1 ++ x) = paxB ⟨bl nm, bl lk, kind, m, sz, tm, bl dt⟩ by rw [bl_append', HX1.out, hx]; show _ = paxP kPath (bl nm) ++ paxP kLink (bl lk); rw [HP.out]; rfl)
        have HI2 := Lib.hid (hI.below hb2)
        have hxs2 : (x1 ++ x).size ≤ 600 := by rw [ByteArray.size_append]; omega
        have HXS := Lib.hid hxs2
        clear hx hb2 hrl hxs2
        go_wp2_with fail
        go_meet
        exact ⟨_, rfl, HXX.out, HXS.out, HI2.out⟩
      · have hb : (lk.size : Int) ≤ 100 := by omega
        have HP := Lib.hid (show paxP kLink (bl lk) = [] from if_neg (by rw [bl_length]; exact hl))
        clear hl
        go_wp2_with fail
        go_meet
        exact ⟨_, rfl, by rw [HX1.out]; show _ = paxP kPath (bl nm) ++ paxP kLink (bl lk); rw [HP.out, List.append_nil], by omega, hI⟩
    case rest =>
    obtain ⟨x2, rfl, hx2, hx2s, hI'⟩ := hcut
    have HX2 := Lib.hid hx2
    clear hx2 c0 c1 hI HX1
    have hI := hI'
    clear hI'
    go_upto_if 42 with fail
    obtain ⟨z, hz⟩ : ∃ z, z = !x2.toList.isEmpty := ⟨_, rfl⟩
    rw [← hz]
    have HZB := Lib.hid hz
    clear hz
    obtain ⟨P, hP⟩ : ∃ P, P = paxB ⟨bl nm, bl lk, kind, m, sz, tm, bl dt⟩ := ⟨_, rfl⟩
    rw [← hP] at HX2
    have HPD := Lib.hid hP
    clear hP
    obtain ⟨Y, hY⟩ : ∃ Y, Y = X ++ (if P = [] then [] else headB (paxF P) ++ fullB P) := ⟨_, rfl⟩
    have HY := Lib.hid hY
    clear hY
    have hXl2 : X.length ≤ 1099520000000 := by omega
    clear hXl
    go_cut [47] (fun _ wx => WInv w w.heap.size F nm lk dt kind m sz tm Y wx ∧ Y.length ≤ 1099530000000)
    case first => as_aux_lemma =>
      rcases z with _ | _
      · have hp : P = [] := by
          rw [← HX2.out, ← tl_eq]
          have h := HZB.out
          simpa using h
        have HYX := Lib.hid (show Y = X by rw [HY.out, if_pos hp, List.append_nil])
        clear hp
        go_wp2_with fail
        go_meet
        exact ⟨hI.cast HYX.out.symm, by rw [HYX.out]; omega⟩
      · have hp : ¬ P = [] := by
          rw [← HX2.out, ← tl_eq]
          have h := HZB.out
          simpa using h
        have HYX := Lib.hid (show Y = X ++ (headB (paxF P) ++ fullB P) by rw [HY.out, if_neg hp])
        clear hp
        go_wp2_with fail
        refine (head_pax x2 _ hx2s (HGT.out.below hI.bel h16)).mono ?_
        rintro e w2 ⟨s1, rfl, hs1, hb2⟩
        have hI2 := hI.below hb2
        have hl1 : s1.size = 512 := by rw [← bl_length, hs1, headB_len]
        have HS1 := Lib.hid hs1
        clear hs1 hb2
        go_wp2_with fail
        refine (writeString_k _ _ _ s1 _ hI2.bld (by rw [byteCells_length]; omega) hI2.bel.size).mono ?_
        rintro e w3 ⟨rfl, hbd, hb3, hk3⟩
        have hI3 := hI2.write hb3 hk3 hbd
        clear hbd hb3 hk3 hI2
        go_wp2_with fail
        refine (filled_any x2 _ (by omega)).mono ?_
        rintro e w4 ⟨s2, rfl, hs2, hb4⟩
        have hI4 := hI3.below hb4
        have hl2 : s2.size ≤ 2048 := by rw [← bl_length, hs2, fullB_len, bl_length]; omega
        have HS2 := Lib.hid hs2
        clear hs2 hb4 hI3
        go_wp2_with fail
        refine (writeString_k _ _ _ s2 _ hI4.bld (by rw [byteCells_length, List.length_append, bl_length]; omega) hI4.bel.size).mono ?_
        rintro e w5 ⟨rfl, hbd, hb5, hk5⟩
        have hI5 := hI4.write hb5 hk5 hbd
        clear hbd hb5 hk5 hI4
        go_wp2_with fail
        go_meet
        refine ⟨hI5.cast (by rw [HYX.out, HS1.out, HS2.out, ← HX2.out, List.append_assoc]), ?_⟩
        rw [HYX.out, List.length_append, List.length_append, headB_len, ← HX2.out, ← HS2.out, bl_length]; omega
    case rest =>
    obtain ⟨hI', hYl⟩ := hcut
    clear hI
    have hI := hI'
    clear hI'
    have c0 := hI.c0
    have c1 := hI.c1
    have c2 := hI.c2
    have c3 := hI.c3
    have c4 := hI.c4
    have c5 := hI.c5
    have c6 := hI.c6
    go_wp2_with fail
    refine (headOf_any nm lk dt kind m sz tm _ (by omega) (by omega) (by omega) (HGT.out.below hI.bel h16).tz).mono ?_
    rintro e w2 ⟨s1, rfl, hs1, hb2⟩
    have hI2 := hI.below hb2
    have hl1 : s1.size = 512 := by rw [← bl_length, hs1, headB_len]
    have HS1 := Lib.hid hs1
    clear hs1 hb2 hI c0 c1 c2 c3 c4 c5 c6
    go_wp2_with fail
    refine (writeString_k _ _ _ s1 _ hI2.bld (by rw [byteCells_length]; omega) hI2.bel.size).mono ?_
    rintro e w3 ⟨rfl, hbd, hb3, hk3⟩
    have hI3 := hI2.write hb3 hk3 hbd
    have c6 := hI3.c6
    clear hbd hb3 hk3 hI2
    go_wp2_with fail
    refine (filled_any dt _ (by omega)).mono ?_
    rintro e w4 ⟨s2, rfl, hs2, hb4⟩
    have hI4 := hI3.below hb4
    have hl2 : s2.size ≤ 1049088 := by rw [← bl_length, hs2, fullB_len, bl_length]; omega
    have HS2 := Lib.hid hs2
    clear hs2 hb4 hI3 c6
    go_wp2_with fail
    refine (writeString_k _ _ _ s2 _ hI4.bld (by rw [byteCells_length, List.length_append, bl_length]; omega) hI4.bel.size).mono ?_
    rintro e w5 ⟨rfl, hbd, hb5, hk5⟩
    have hI5 := hI4.write hb5 hk5 hbd
    have HBODY := Lib.hid (show Y ++ bl s1 ++ bl s2 = bodyB ((fs.take (j + 1)).map FileI.toM) by
      rw [List.take_succ_eq_append_getElem hlt, List.map_append, List.map_singleton, bodyB_snoc, ← HF.out, HFM.out, ← HX.out, HY.out, HS1.out, HS2.out, memB, ← HPD.out]
      simp only [List.append_assoc])
    have HI5 := Lib.hid (hI5.cast HBODY.out)
    have HLEN := Lib.hid (show (bodyB ((fs.take (j + 1)).map FileI.toM)).length ≤ 1073750000 * (j + 1) by
      have hml := memB_len HG.out (by show f.data.length ≤ _; have := HDT.out; rw [← this, bl_length]; omega)
      have hbl := HBL.out
      rw [List.take_succ_eq_append_getElem hlt, List.map_append, List.map_singleton, bodyB_snoc, ← HF.out, List.length_append]
      omega)
    have HGD2 := Lib.hid (show ∀ f ∈ fs.take (j + 1), f.code = 0 by
      intro f' hf'
      rw [List.take_succ_eq_append_getElem hlt, List.mem_append, List.mem_singleton] at hf'
      rcases hf' with h | rfl
      · exact HGD.out f' h
      · rw [← HF.out]; exact HZ.out)
    clear hbd hb5 hk5 hI4 hI5
    go_wp2_with fail
    go_roundg (fs.length - (j + 1))
    case rel => exact ⟨j + 1, rfl, by omega, by go_num, HGD2.out, HI5.out.bel, by have := (Array.getElem?_eq_some_iff.1 HI5.out.fc).1; have := HI5.out.bld; exact builder_lt HI5.out.bld, HLEN.out, HI5.out.bld⟩
    case measure => have := HGK.out; omega
end Tp
end Go.Proofs.YtiehjmjobcklmaaDoor
