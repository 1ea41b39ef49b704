/- The reference's Read: a member begun. -/
import Derived.Test.YtiehjmjobcklmaaDoorTpJ
namespace Go.Proofs.YtiehjmjobcklmaaDoor
open Go.RowKit Go.Shelf Go.Lib
namespace Tp
/-- the file that is being made: the first block behind w1 -/
structure MI (w1 : World) (nm lk dt : ByteArray) (kind : UInt8) (mode size time : Nat) (w : World) : Prop where
  bel : Below w1.heap.size w1 w
  f : w.heap[w1.heap.size]? = some (.cells #[.string nm, .string lk, .int .u8 kind.toNat, .int .i64 mode, .int .i64 size, .int .i64 time, .string dt] 38 (0, 0))
section
variable {w1 w w' : World} {nm lk dt : ByteArray} {kind : UInt8} {mode size time : Nat}
theorem MI.c0 (h : MI w1 nm lk dt kind mode size time w) : w.cell? ⟨w1.heap.size, 0, none⟩ = some (.string nm) := by rw [cell_of_row _ _ _ _ _ _ h.f]; rfl
theorem MI.c1 (h : MI w1 nm lk dt kind mode size time w) : w.cell? ⟨w1.heap.size, 1, none⟩ = some (.string lk) := by rw [cell_of_row _ _ _ _ _ _ h.f]; rfl
theorem MI.c2 (h : MI w1 nm lk dt kind mode size time w) : w.cell? ⟨w1.heap.size, 2, none⟩ = some (.int .u8 kind.toNat) := by rw [cell_of_row _ _ _ _ _ _ h.f]; rfl
theorem MI.c3 (h : MI w1 nm lk dt kind mode size time w) : w.cell? ⟨w1.heap.size, 3, none⟩ = some (.int .i64 mode) := by rw [cell_of_row _ _ _ _ _ _ h.f]; rfl
theorem MI.c4 (h : MI w1 nm lk dt kind mode size time w) : w.cell? ⟨w1.heap.size, 4, none⟩ = some (.int .i64 size) := by rw [cell_of_row _ _ _ _ _ _ h.f]; rfl
theorem MI.c5 (h : MI w1 nm lk dt kind mode size time w) : w.cell? ⟨w1.heap.size, 5, none⟩ = some (.int .i64 time) := by rw [cell_of_row _ _ _ _ _ _ h.f]; rfl
theorem MI.c6 (h : MI w1 nm lk dt kind mode size time w) : w.cell? ⟨w1.heap.size, 6, none⟩ = some (.string dt) := by rw [cell_of_row _ _ _ _ _ _ h.f]; rfl
theorem MI.ff (h : MI w1 nm lk dt kind mode size time w) (i : Nat) : w.frozen? ⟨w1.heap.size, i, none⟩ = false := by simp [World.frozen?, h.f]
theorem MI.lt (h : MI w1 nm lk dt kind mode size time w) : w1.heap.size < w.heap.size := (Array.getElem?_eq_some_iff.1 h.f).1
theorem MI.name (h : MI w1 nm lk dt kind mode size time w) (x : ByteArray) : MI w1 x lk dt kind mode size time (w.setCell ⟨w1.heap.size, 0, none⟩ (.string x)) := ⟨h.bel.setCell (Nat.le_refl _) _, block_set h.f 0 _⟩
theorem MI.link (h : MI w1 nm lk dt kind mode size time w) (x : ByteArray) : MI w1 nm x dt kind mode size time (w.setCell ⟨w1.heap.size, 1, none⟩ (.string x)) := ⟨h.bel.setCell (Nat.le_refl _) _, block_set h.f 1 _⟩
theorem MI.data (h : MI w1 nm lk dt kind mode size time w) (x : ByteArray) : MI w1 nm lk x kind mode size time (w.setCell ⟨w1.heap.size, 6, none⟩ (.string x)) := ⟨h.bel.setCell (Nat.le_refl _) _, block_set h.f 6 _⟩
end
/-- the frame while a member is made -/
structure Fm (s h lo : ByteArray) (named : Bool) (fv x y : Value) (p' size mode time : Nat) (kind : UInt8) (D : ByteArray) (p g : Nat) (pre : ByteArray) (t : Array Value) : Prop where
  fr : Fr s fv x y lo named p' t
  h11 : t[11]? = some (.string h)
  h20 : t[20]? = some (.int .u8 kind.toNat)
  h31 : t[31]? = some (.string D)
  h32 : t[32]? = some (.int .i64 p)
  h35 : t[35]? = some (.pointer (some ⟨g, 0, none⟩))
  h36 : t[36]? = some (.string pre)
section
variable (t : Array Value) (s h lo : ByteArray) (named : Bool) (fv x y : Value) (p size mode time : Nat) (kind : UInt8) (ot : Bool) (w0 w : World) (Q : Exit → Act → World → Prop)
set_option maxRecDepth 100000 in
set_option maxHeartbeats 4000000 in
theorem ref_mem1 (D : ByteArray) (xs ys : List Rec) (fs : List FileM) (p' : Nat) (hFk : Fk s h lo named fv x y p' size mode time kind ot t) (h31 : t[31]? = some (.string D)) (h32 : t[32]? = some (.int .i64 p))
    (hh : h.size = 512) (hK : RK s w0 fv x y xs ys fs p w) (hQ : Qs s w0 p Q)
    (hgo : fs.length = 1024 → readM s.size (bl s) 0 st0 = .error (16, p))
    (hN : fs.length < 1024 → ∀ (t : Array Value) (w' : World) (nm lk pre : ByteArray), Fm s h lo named fv x y p' size mode time kind D p w.heap.size pre t → MI w nm lk ⟨#[]⟩ kind mode size time w' →
      bl nm = takeTo 0 (fld (bl h) 0 100) → bl lk = takeTo 0 (fld (bl h) 157 100) → bl pre = takeTo 0 (fld (bl h) 345 155) → nm.size ≤ 1048576 → lk.size ≤ 1048576 → pre.size ≤ 1048576 → Code.wp Tryd.prog (cDrop 33 refBody) Q ⟨t, []⟩ w') :
    Code.wp Tryd.prog (cDrop 28 refBody) Q ⟨t, []⟩ w := by
  obtain ⟨ao, cap, rfl⟩ : ∃ ao cap, fv = .slice ao fs.length cap := by
    rcases hK.rs.rf.2 with ⟨h, h'⟩ | ⟨g0, cap0, cur, h, _⟩
    · exact ⟨none, 0, by rw [h, h']⟩
    · exact ⟨_, _, h⟩
  obtain ⟨hF, h11, h17, h18, h19, h20, h21⟩ := hFk
  obtain ⟨hsz, h0, h5, h6, h7, h8, h9, h10⟩ := hF
  obtain ⟨u, rfl⟩ := spread t hsz
  replace h0 : u 0 = .string s := Option.some.inj h0
  replace h5 : u 5 = .slice ao fs.length cap := Option.some.inj h5
  replace h6 : u 6 = x := Option.some.inj h6
  replace h7 : u 7 = y := Option.some.inj h7
  replace h8 : u 8 = .string lo := Option.some.inj h8
  replace h9 : u 9 = .bool named := Option.some.inj h9
  replace h10 : u 10 = .int .i64 p' := Option.some.inj h10
  replace h11 : u 11 = .string h := Option.some.inj h11
  replace h17 : u 17 = .int .i64 size := Option.some.inj h17
  replace h18 : u 18 = .int .i64 mode := Option.some.inj h18
  replace h19 : u 19 = .int .i64 time := Option.some.inj h19
  replace h20 : u 20 = .int .u8 kind.toNat := Option.some.inj h20
  replace h21 : u 21 = .bool ot := Option.some.inj h21
  replace h31 : u 31 = .string D := Option.some.inj h31
  replace h32 : u 32 = .int .i64 p := Option.some.inj h32
  rw [h0, h5, h6, h7, h8, h9, h10, h11, h17, h18, h19, h20, h21, h31, h32]
  clear h0 h5 h6 h7 h8 h9 h10 h11 h17 h18 h19 h20 h21 h31 h32 hsz
  have e : cDrop 28 refBody = cUpto 5 (cDrop 28 refBody) (cDrop 33 refBody) := by kernel_rfl
  rw [e]
  clear e
  generalize cDrop 33 refBody = tl at hN ⊢
  dsimp only [cUpto, refBody, refLoop, refTop, cDrop, cLeft, cRight, cBlk, cLoop, Tryd.f8, Option.getD]
  have FIN := Lib.hid hN
  have HGO := Lib.hid hgo
  have HK := Lib.hid hK
  have hfl := hK.fl
  clear hN hgo hK
  by_cases h1 : fs.length = 1024
  · have hb : (1023 : Int) < (fs.length : Int) := by omega
    have HE := Lib.hid (HGO.out h1)
    clear h1
    go_wp2_with fail
    exact hQ.ret _ _ _ _ _ rfl rfl rfl (RefR.err HE.out rfl (by simp) HK.out.b)
  have hb : (fs.length : Int) ≤ 1023 := by omega
  have FI2 := Lib.hid (FIN.out (by omega))
  have F1 := Lib.hid (show bl (h.extract 0 100) = fld (bl h) 0 100 by rw [bl_extract]; rfl)
  have F2 := Lib.hid (show bl (h.extract 157 257) = fld (bl h) 157 100 by rw [bl_extract]; rfl)
  have F3 := Lib.hid (show bl (h.extract 345 500) = fld (bl h) 345 155 by rw [bl_extract]; rfl)
  clear h1 FIN HGO
  go_wp2_with fail
  have hM : MI w ⟨#[]⟩ ⟨#[]⟩ ⟨#[]⟩ kind mode size time (w.alloc (.cells #[.string ⟨#[]⟩, .string ⟨#[]⟩, .int .u8 kind.toNat, .int .i64 mode, .int .i64 size, .int .i64 time, .string ⟨#[]⟩] 38)) := ⟨(Below.refl _ _).alloc (Nat.le_refl _) _, heap_alloc_new _ _⟩
  revert hM
  generalize w.alloc (.cells #[.string ⟨#[]⟩, .string ⟨#[]⟩, .int .u8 kind.toNat, .int .i64 mode, .int .i64 size, .int .i64 time, .string ⟨#[]⟩] 38) = wa
  intro hM
  refine (upto_any (h.extract 0 100) 0 _ (by simp; omega)).mono ?_
  rintro e w' ⟨nm, rfl, ha, has, rfl⟩
  have HA1 := Lib.hid (ha.trans (by rw [F1.out]))
  have hs1 : nm.size ≤ 512 := by simp at has; omega
  have c0 := hM.c0
  have ff := hM.ff
  have hlt := hM.lt
  have hM2 := Lib.hid (hM.name nm)
  clear ha has F1 hM
  go_wp2_with fail
  clear c0 ff hlt
  have hM := hM2.out
  clear hM2
  revert hM
  generalize wa.setCell ⟨w.heap.size, 0, none⟩ (.string nm) = wb
  intro hM
  refine (upto_any (h.extract 157 257) 0 _ (by simp; omega)).mono ?_
  rintro e w' ⟨lk, rfl, ha, has, rfl⟩
  have HA2 := Lib.hid (ha.trans (by rw [F2.out]))
  have hs2 : lk.size ≤ 512 := by simp at has; omega
  have c1 := hM.c1
  have ff := hM.ff
  have hlt := hM.lt
  have hM2 := Lib.hid (hM.link lk)
  clear ha has F2 hM
  go_wp2_with fail
  clear c1 ff hlt
  refine (upto_any (h.extract 345 500) 0 _ (by simp; omega)).mono ?_
  rintro e w' ⟨pre, rfl, ha, has, rfl⟩
  have HA3 := Lib.hid (ha.trans (by rw [F3.out]))
  have hs3 : pre.size ≤ 512 := by simp at has; omega
  clear ha has F3
  go_wp2_with fail
  exact FI2.out _ _ nm lk pre ⟨⟨rfl, rfl, rfl, rfl, rfl, rfl, rfl, rfl⟩, rfl, rfl, rfl, rfl, rfl, rfl⟩ hM2.out HA1.out HA2.out HA3.out (by omega) (by omega) (by omega)
/-- one told text laid over a field of the file -/
structure Ctx (s : ByteArray) (w0 w1 : World) (fv x y : Value) (xs ys : List Rec) (fs : List FileM) (p : Nat) (w : World) : Prop where
  k : RK s w0 fv x y xs ys fs p w1
  b : Below w1.heap.size w1 w
theorem Ctx.rs {s : ByteArray} {w0 w1 w : World} {fv x y : Value} {xs ys : List Rec} {fs : List FileM} {p : Nat} (h : Ctx s w0 w1 fv x y xs ys fs p w) : RS w0.heap.size x y fv xs ys fs w := h.k.rs.kept h.b
theorem eq_empty_of {x : ByteArray} (h : bl x = []) : x = ⟨#[]⟩ := by
  have : x.data.toList = [] := h
  exact ByteArray.ext (by simpa using this)
set_option maxRecDepth 100000 in
set_option maxHeartbeats 4000000 in
theorem ref_mem2 (D : ByteArray) (p' : Nat) (w1 : World) (nm lk dt pre : ByteArray) (hFm : Fm s h lo named fv x y p' size mode time kind D p w1.heap.size pre t) (hM : MI w1 nm lk dt kind mode size time w)
    (hh : h.size = 512) (hnm : bl nm = takeTo 0 (fld (bl h) 0 100)) (hpre : bl pre = takeTo 0 (fld (bl h) 345 155)) (hs1 : nm.size ≤ 1048576) (hs2 : pre.size ≤ 1048576)
    (hN : ∀ (t : Array Value) (w' : World) (nm : ByteArray), Fm s h lo named fv x y p' size mode time kind D p w1.heap.size pre t → MI w1 nm lk dt kind mode size time w' → bl nm = nameM (bl h) → Code.wp Tryd.prog (cDrop 34 refBody) Q ⟨t, []⟩ w') :
    Code.wp Tryd.prog (cDrop 33 refBody) Q ⟨t, []⟩ w := by
  obtain ⟨hF, h11, h20, h31, h32, h35, h36⟩ := hFm
  obtain ⟨hsz, h0, h5, h6, h7, h8, h9, h10⟩ := hF
  obtain ⟨u, rfl⟩ := spread t hsz
  replace h0 : u 0 = .string s := Option.some.inj h0
  replace h5 : u 5 = fv := Option.some.inj h5
  replace h6 : u 6 = x := Option.some.inj h6
  replace h7 : u 7 = y := Option.some.inj h7
  replace h8 : u 8 = .string lo := Option.some.inj h8
  replace h9 : u 9 = .bool named := Option.some.inj h9
  replace h10 : u 10 = .int .i64 p' := Option.some.inj h10
  replace h11 : u 11 = .string h := Option.some.inj h11
  replace h20 : u 20 = .int .u8 kind.toNat := Option.some.inj h20
  replace h31 : u 31 = .string D := Option.some.inj h31
  replace h32 : u 32 = .int .i64 p := Option.some.inj h32
  replace h35 : u 35 = .pointer (some ⟨w1.heap.size, 0, none⟩) := Option.some.inj h35
  replace h36 : u 36 = .string pre := Option.some.inj h36
  rw [h0, h5, h6, h7, h8, h9, h10, h11, h20, h31, h32, h35, h36]
  clear h0 h5 h6 h7 h8 h9 h10 h11 h20 h31 h32 h35 h36 hsz
  have e : cDrop 33 refBody = cUpto 1 (cDrop 33 refBody) (cDrop 34 refBody) := by kernel_rfl
  rw [e]
  clear e
  generalize cDrop 34 refBody = tl at hN ⊢
  dsimp only [cUpto, refBody, refLoop, refTop, cDrop, cLeft, cRight, cBlk, cLoop, Tryd.f8, Option.getD]
  have FIN := Lib.hid hN
  have HM := Lib.hid hM
  have hus : bl (h.extract 257 262) = fld (bl h) 257 5 := by rw [bl_extract]; rfl
  by_cases h1 : fld (bl h) 257 5 = kUstar
  · have hb1 := tl_yes (l := [117, 115, 116, 97, 114]) (hus.trans h1)
    by_cases h2 : takeTo 0 (fld (bl h) 345 155) = []
    · have HX := Lib.hid (show nameM (bl h) = bl nm by rw [nameM, if_neg (fun h => h.2 h2), hnm])
      have he := eq_empty_of (hpre.trans h2)
      subst he
      clear h1 h2 hus hnm hpre hM hN
      go_wp2_with fail
      exact FIN.out _ _ nm ⟨⟨rfl, rfl, rfl, rfl, rfl, rfl, rfl, rfl⟩, rfl, rfl, rfl, rfl, rfl, rfl⟩ HM.out HX.out.symm
    · have HX := Lib.hid (show nameM (bl h) = bl ((pre ++ ⟨#[47]⟩) ++ nm) by rw [nameM, if_pos ⟨h1, h2⟩, bl_append, bl_append, hpre, hnm]; simp [bl])
      have hb2 := tl_no (x := pre) (l := []) (by rw [hpre]; exact h2)
      have c0 := hM.c0
      have ff := hM.ff
      have hlt := hM.lt
      have hM2 := Lib.hid (hM.name ((pre ++ ⟨#[47]⟩) ++ nm))
      clear h1 h2 hus hnm hpre hM hN HM
      go_wp2_with fail
      exact FIN.out _ _ _ ⟨⟨rfl, rfl, rfl, rfl, rfl, rfl, rfl, rfl⟩, rfl, rfl, rfl, rfl, rfl, rfl⟩ hM2.out HX.out.symm
  · have hb1 := tl_no (x := h.extract 257 262) (l := [117, 115, 116, 97, 114]) (by rw [hus]; exact h1)
    have HX := Lib.hid (show nameM (bl h) = bl nm by rw [nameM, if_neg (fun h => h1 h.1), hnm])
    clear h1 hus hnm hpre hM hN
    go_wp2_with fail
    exact FIN.out _ _ nm ⟨⟨rfl, rfl, rfl, rfl, rfl, rfl, rfl, rfl⟩, rfl, rfl, rfl, rfl, rfl, rfl⟩ HM.out HX.out.symm
set_option maxRecDepth 100000 in
set_option maxHeartbeats 4000000 in
theorem ref_mem3 (D : ByteArray) (xs ys : List Rec) (fs : List FileM) (p' : Nat) (w1 : World) (nm lk dt pre : ByteArray) (hFm : Fm s h lo named fv x y p' size mode time kind D p w1.heap.size pre t) (hM : MI w1 nm lk dt kind mode size time w)
    (hC : Ctx s w0 w1 fv x y xs ys fs p w) (hp : p ≤ 1048576)
    (hN : ∀ (t : Array Value) (w' : World) (nm' : ByteArray), Fm s h lo named fv x y p' size mode time kind D p w1.heap.size pre t → MI w1 nm' lk dt kind mode size time w' → bl nm' = (toldM ys kPath).getD (bl nm) → Code.wp Tryd.prog (cDrop 35 refBody) Q ⟨t, []⟩ w') :
    Code.wp Tryd.prog (cDrop 34 refBody) Q ⟨t, []⟩ w := by
  have hxy := hC.k.xy
  have C := Lib.hid (told_any ys ⟨#[112, 97, 116, 104]⟩ y w0.heap.size w (by omega) hC.rs.ry)
  obtain ⟨hF, h11, h20, h31, h32, h35, h36⟩ := hFm
  obtain ⟨hsz, h0, h5, h6, h7, h8, h9, h10⟩ := hF
  obtain ⟨u, rfl⟩ := spread t hsz
  replace h0 : u 0 = .string s := Option.some.inj h0
  replace h5 : u 5 = fv := Option.some.inj h5
  replace h6 : u 6 = x := Option.some.inj h6
  replace h7 : u 7 = y := Option.some.inj h7
  replace h8 : u 8 = .string lo := Option.some.inj h8
  replace h9 : u 9 = .bool named := Option.some.inj h9
  replace h10 : u 10 = .int .i64 p' := Option.some.inj h10
  replace h11 : u 11 = .string h := Option.some.inj h11
  replace h20 : u 20 = .int .u8 kind.toNat := Option.some.inj h20
  replace h31 : u 31 = .string D := Option.some.inj h31
  replace h32 : u 32 = .int .i64 p := Option.some.inj h32
  replace h35 : u 35 = .pointer (some ⟨w1.heap.size, 0, none⟩) := Option.some.inj h35
  replace h36 : u 36 = .string pre := Option.some.inj h36
  rw [h0, h5, h6, h7, h8, h9, h10, h11, h20, h31, h32, h35, h36]
  clear h0 h5 h6 h7 h8 h9 h10 h11 h20 h31 h32 h35 h36 hsz
  have e : cDrop 34 refBody = cUpto 1 (cDrop 34 refBody) (cDrop 35 refBody) := by kernel_rfl
  rw [e]
  clear e
  generalize cDrop 35 refBody = tl at hN ⊢
  dsimp only [cUpto, refBody, refLoop, refTop, cDrop, cLeft, cRight, cBlk, cLoop, Tryd.f8, Option.getD]
  have FIN := Lib.hid hN
  have HM := Lib.hid hM
  clear hN hM hC
  go_wp2_with fail
  refine C.out.mono ?_
  rintro e w' ⟨r, b, rfl, hr, rfl⟩
  have HR := Lib.hid (show toldM ys kPath = _ from hr)
  clear hr C
  rcases b with _ | _
  · go_wp2_with fail
    exact FIN.out _ _ _ ⟨⟨rfl, rfl, rfl, rfl, rfl, rfl, rfl, rfl⟩, rfl, rfl, rfl, rfl, rfl, rfl⟩ HM.out (by rw [HR.out]; rfl)
  · have c0 := HM.out.c0
    have ff := HM.out.ff
    have hlt := HM.out.lt
    have hM2 := Lib.hid (HM.out.name r)
    go_wp2_with fail
    exact FIN.out _ _ _ ⟨⟨rfl, rfl, rfl, rfl, rfl, rfl, rfl, rfl⟩, rfl, rfl, rfl, rfl, rfl, rfl⟩ hM2.out (by rw [HR.out]; rfl)
set_option maxRecDepth 100000 in
set_option maxHeartbeats 4000000 in
theorem ref_mem4 (D : ByteArray) (p' : Nat) (w1 : World) (nm lk dt pre : ByteArray) (hFm : Fm s h lo named fv x y p' size mode time kind D p w1.heap.size pre t) (hM : MI w1 nm lk dt kind mode size time w)
    (hN : ∀ (t : Array Value) (w' : World) (nm' : ByteArray), Fm s h lo named fv x y p' size mode time kind D p w1.heap.size pre t → MI w1 nm' lk dt kind mode size time w' → bl nm' = (if named = true then some (bl lo) else none).getD (bl nm) → Code.wp Tryd.prog (cDrop 36 refBody) Q ⟨t, []⟩ w') :
    Code.wp Tryd.prog (cDrop 35 refBody) Q ⟨t, []⟩ w := by
  obtain ⟨hF, h11, h20, h31, h32, h35, h36⟩ := hFm
  obtain ⟨hsz, h0, h5, h6, h7, h8, h9, h10⟩ := hF
  obtain ⟨u, rfl⟩ := spread t hsz
  replace h0 : u 0 = .string s := Option.some.inj h0
  replace h5 : u 5 = fv := Option.some.inj h5
  replace h6 : u 6 = x := Option.some.inj h6
  replace h7 : u 7 = y := Option.some.inj h7
  replace h8 : u 8 = .string lo := Option.some.inj h8
  replace h9 : u 9 = .bool named := Option.some.inj h9
  replace h10 : u 10 = .int .i64 p' := Option.some.inj h10
  replace h11 : u 11 = .string h := Option.some.inj h11
  replace h20 : u 20 = .int .u8 kind.toNat := Option.some.inj h20
  replace h31 : u 31 = .string D := Option.some.inj h31
  replace h32 : u 32 = .int .i64 p := Option.some.inj h32
  replace h35 : u 35 = .pointer (some ⟨w1.heap.size, 0, none⟩) := Option.some.inj h35
  replace h36 : u 36 = .string pre := Option.some.inj h36
  rw [h0, h5, h6, h7, h8, h9, h10, h11, h20, h31, h32, h35, h36]
  clear h0 h5 h6 h7 h8 h9 h10 h11 h20 h31 h32 h35 h36 hsz
  have e : cDrop 35 refBody = cUpto 1 (cDrop 35 refBody) (cDrop 36 refBody) := by kernel_rfl
  rw [e]
  clear e
  generalize cDrop 36 refBody = tl at hN ⊢
  dsimp only [cUpto, refBody, refLoop, refTop, cDrop, cLeft, cRight, cBlk, cLoop, Tryd.f8, Option.getD]
  have FIN := Lib.hid hN
  have HM := Lib.hid hM
  clear hN hM
  rcases named with _ | _
  · go_wp2_with fail
    exact FIN.out _ _ _ ⟨⟨rfl, rfl, rfl, rfl, rfl, rfl, rfl, rfl⟩, rfl, rfl, rfl, rfl, rfl, rfl⟩ HM.out rfl
  · have c0 := HM.out.c0
    have ff := HM.out.ff
    have hlt := HM.out.lt
    have hM2 := Lib.hid (HM.out.name lo)
    go_wp2_with fail
    exact FIN.out _ _ _ ⟨⟨rfl, rfl, rfl, rfl, rfl, rfl, rfl, rfl⟩, rfl, rfl, rfl, rfl, rfl, rfl⟩ hM2.out rfl
set_option maxRecDepth 100000 in
set_option maxHeartbeats 4000000 in
theorem ref_mem5 (D : ByteArray) (xs ys : List Rec) (fs : List FileM) (p' : Nat) (w1 : World) (nm lk dt pre : ByteArray) (hFm : Fm s h lo named fv x y p' size mode time kind D p w1.heap.size pre t) (hM : MI w1 nm lk dt kind mode size time w)
    (hC : Ctx s w0 w1 fv x y xs ys fs p w) (hp : p ≤ 1048576)
    (hN : ∀ (t : Array Value) (w' : World) (nm' : ByteArray), Fm s h lo named fv x y p' size mode time kind D p w1.heap.size pre t → MI w1 nm' lk dt kind mode size time w' → bl nm' = (toldM xs kPath).getD (bl nm) → Code.wp Tryd.prog (cDrop 37 refBody) Q ⟨t, []⟩ w') :
    Code.wp Tryd.prog (cDrop 36 refBody) Q ⟨t, []⟩ w := by
  have hxy := hC.k.xy
  have C := Lib.hid (told_any xs ⟨#[112, 97, 116, 104]⟩ x w0.heap.size w (by omega) hC.rs.rx)
  obtain ⟨hF, h11, h20, h31, h32, h35, h36⟩ := hFm
  obtain ⟨hsz, h0, h5, h6, h7, h8, h9, h10⟩ := hF
  obtain ⟨u, rfl⟩ := spread t hsz
  replace h0 : u 0 = .string s := Option.some.inj h0
  replace h5 : u 5 = fv := Option.some.inj h5
  replace h6 : u 6 = x := Option.some.inj h6
  replace h7 : u 7 = y := Option.some.inj h7
  replace h8 : u 8 = .string lo := Option.some.inj h8
  replace h9 : u 9 = .bool named := Option.some.inj h9
  replace h10 : u 10 = .int .i64 p' := Option.some.inj h10
  replace h11 : u 11 = .string h := Option.some.inj h11
  replace h20 : u 20 = .int .u8 kind.toNat := Option.some.inj h20
  replace h31 : u 31 = .string D := Option.some.inj h31
  replace h32 : u 32 = .int .i64 p := Option.some.inj h32
  replace h35 : u 35 = .pointer (some ⟨w1.heap.size, 0, none⟩) := Option.some.inj h35
  replace h36 : u 36 = .string pre := Option.some.inj h36
  rw [h0, h5, h6, h7, h8, h9, h10, h11, h20, h31, h32, h35, h36]
  clear h0 h5 h6 h7 h8 h9 h10 h11 h20 h31 h32 h35 h36 hsz
  have e : cDrop 36 refBody = cUpto 1 (cDrop 36 refBody) (cDrop 37 refBody) := by kernel_rfl
  rw [e]
  clear e
  generalize cDrop 37 refBody = tl at hN ⊢
  dsimp only [cUpto, refBody, refLoop, refTop, cDrop, cLeft, cRight, cBlk, cLoop, Tryd.f8, Option.getD]
  have FIN := Lib.hid hN
  have HM := Lib.hid hM
  clear hN hM hC
  go_wp2_with fail
  refine C.out.mono ?_
  rintro e w' ⟨r, b, rfl, hr, rfl⟩
  have HR := Lib.hid (show toldM xs kPath = _ from hr)
  clear hr C
  rcases b with _ | _
  · go_wp2_with fail
    exact FIN.out _ _ _ ⟨⟨rfl, rfl, rfl, rfl, rfl, rfl, rfl, rfl⟩, rfl, rfl, rfl, rfl, rfl, rfl⟩ HM.out (by rw [HR.out]; rfl)
  · have c0 := HM.out.c0
    have ff := HM.out.ff
    have hlt := HM.out.lt
    have hM2 := Lib.hid (HM.out.name r)
    go_wp2_with fail
    exact FIN.out _ _ _ ⟨⟨rfl, rfl, rfl, rfl, rfl, rfl, rfl, rfl⟩, rfl, rfl, rfl, rfl, rfl, rfl⟩ hM2.out (by rw [HR.out]; rfl)
set_option maxRecDepth 100000 in
set_option maxHeartbeats 4000000 in
theorem ref_mem6 (D : ByteArray) (xs ys : List Rec) (fs : List FileM) (p' : Nat) (w1 : World) (nm lk dt pre : ByteArray) (hFm : Fm s h lo named fv x y p' size mode time kind D p w1.heap.size pre t) (hM : MI w1 nm lk dt kind mode size time w)
    (hC : Ctx s w0 w1 fv x y xs ys fs p w) (hp : p ≤ 1048576)
    (hN : ∀ (t : Array Value) (w' : World) (lk' : ByteArray), Fm s h lo named fv x y p' size mode time kind D p w1.heap.size pre t → MI w1 nm lk' dt kind mode size time w' → bl lk' = (pickM xs ys kLink).getD (bl lk) → Code.wp Tryd.prog (cDrop 38 refBody) Q ⟨t, []⟩ w') :
    Code.wp Tryd.prog (cDrop 37 refBody) Q ⟨t, []⟩ w := by
  have hxy := hC.k.xy
  have C := Lib.hid (pick_any xs ys ⟨#[108, 105, 110, 107, 112, 97, 116, 104]⟩ x y w0.heap.size w0.heap.size w (by omega) (by omega) hC.rs.rx hC.rs.ry)
  obtain ⟨hF, h11, h20, h31, h32, h35, h36⟩ := hFm
  obtain ⟨hsz, h0, h5, h6, h7, h8, h9, h10⟩ := hF
  obtain ⟨u, rfl⟩ := spread t hsz
  replace h0 : u 0 = .string s := Option.some.inj h0
  replace h5 : u 5 = fv := Option.some.inj h5
  replace h6 : u 6 = x := Option.some.inj h6
  replace h7 : u 7 = y := Option.some.inj h7
  replace h8 : u 8 = .string lo := Option.some.inj h8
  replace h9 : u 9 = .bool named := Option.some.inj h9
  replace h10 : u 10 = .int .i64 p' := Option.some.inj h10
  replace h11 : u 11 = .string h := Option.some.inj h11
  replace h20 : u 20 = .int .u8 kind.toNat := Option.some.inj h20
  replace h31 : u 31 = .string D := Option.some.inj h31
  replace h32 : u 32 = .int .i64 p := Option.some.inj h32
  replace h35 : u 35 = .pointer (some ⟨w1.heap.size, 0, none⟩) := Option.some.inj h35
  replace h36 : u 36 = .string pre := Option.some.inj h36
  rw [h0, h5, h6, h7, h8, h9, h10, h11, h20, h31, h32, h35, h36]
  clear h0 h5 h6 h7 h8 h9 h10 h11 h20 h31 h32 h35 h36 hsz
  have e : cDrop 37 refBody = cUpto 1 (cDrop 37 refBody) (cDrop 38 refBody) := by kernel_rfl
  rw [e]
  clear e
  generalize cDrop 38 refBody = tl at hN ⊢
  dsimp only [cUpto, refBody, refLoop, refTop, cDrop, cLeft, cRight, cBlk, cLoop, Tryd.f8, Option.getD]
  have FIN := Lib.hid hN
  have HM := Lib.hid hM
  clear hN hM hC
  go_wp2_with fail
  refine C.out.mono ?_
  rintro e w' ⟨r, b, rfl, hr, rfl⟩
  have HR := Lib.hid (show pickM xs ys kLink = _ from hr)
  clear hr C
  rcases b with _ | _
  · go_wp2_with fail
    exact FIN.out _ _ _ ⟨⟨rfl, rfl, rfl, rfl, rfl, rfl, rfl, rfl⟩, rfl, rfl, rfl, rfl, rfl, rfl⟩ HM.out (by rw [HR.out]; rfl)
  · have c1 := HM.out.c1
    have ff := HM.out.ff
    have hlt := HM.out.lt
    have hM2 := Lib.hid (HM.out.link r)
    go_wp2_with fail
    exact FIN.out _ _ _ ⟨⟨rfl, rfl, rfl, rfl, rfl, rfl, rfl, rfl⟩, rfl, rfl, rfl, rfl, rfl, rfl⟩ hM2.out (by rw [HR.out]; rfl)
theorem info38 : (Tryd.prog.info? 38).map (fun i => (i.zero, i.size, i.bytes)) = some (some (.agg #[.string ⟨#[]⟩, .string ⟨#[]⟩, .int .u8 0, .int .i64 0, .int .i64 0, .int .i64 0, .string ⟨#[]⟩]), 7, 80) := by kernel_rfl
set_option maxRecDepth 100000 in
set_option maxHeartbeats 4000000 in
theorem ref_mem7 (D : ByteArray) (p' : Nat) (w1 : World) (nm lk pre : ByteArray) (hFm : Fm s h lo named fv x y p' size mode time kind D p w1.heap.size pre t) (hM : MI w1 nm lk ⟨#[]⟩ kind mode size time w)
    (hB : Below w0.heap.size w0 w) (hQ : Qs s w0 p Q)
    (hgo : 256 < nm.size ∨ 256 < lk.size → readM s.size (bl s) 0 st0 = .error (2, p))
    (hN : ¬ (256 < nm.size ∨ 256 < lk.size) → ∀ (t : Array Value) (w' : World), Fm s h lo named fv x y p' size mode time kind D p w1.heap.size pre t → MI w1 nm lk (if kind = 48 then D else ⟨#[]⟩) kind mode size time w' → Code.wp Tryd.prog (cDrop 40 refBody) Q ⟨t, []⟩ w') :
    Code.wp Tryd.prog (cDrop 38 refBody) Q ⟨t, []⟩ w := by
  obtain ⟨hF, h11, h20, h31, h32, h35, h36⟩ := hFm
  obtain ⟨hsz, h0, h5, h6, h7, h8, h9, h10⟩ := hF
  obtain ⟨u, rfl⟩ := spread t hsz
  replace h0 : u 0 = .string s := Option.some.inj h0
  replace h5 : u 5 = fv := Option.some.inj h5
  replace h6 : u 6 = x := Option.some.inj h6
  replace h7 : u 7 = y := Option.some.inj h7
  replace h8 : u 8 = .string lo := Option.some.inj h8
  replace h9 : u 9 = .bool named := Option.some.inj h9
  replace h10 : u 10 = .int .i64 p' := Option.some.inj h10
  replace h11 : u 11 = .string h := Option.some.inj h11
  replace h20 : u 20 = .int .u8 kind.toNat := Option.some.inj h20
  replace h31 : u 31 = .string D := Option.some.inj h31
  replace h32 : u 32 = .int .i64 p := Option.some.inj h32
  replace h35 : u 35 = .pointer (some ⟨w1.heap.size, 0, none⟩) := Option.some.inj h35
  replace h36 : u 36 = .string pre := Option.some.inj h36
  rw [h0, h5, h6, h7, h8, h9, h10, h11, h20, h31, h32, h35, h36]
  clear h0 h5 h6 h7 h8 h9 h10 h11 h20 h31 h32 h35 h36 hsz
  have e : cDrop 38 refBody = cUpto 2 (cDrop 38 refBody) (cDrop 40 refBody) := by kernel_rfl
  rw [e]
  clear e
  generalize cDrop 40 refBody = tl at hN ⊢
  dsimp only [cUpto, refBody, refLoop, refTop, cDrop, cLeft, cRight, cBlk, cLoop, Tryd.f8, Option.getD]
  have FIN := Lib.hid hN
  have HM := Lib.hid hM
  have c0 := hM.c0
  have c1 := hM.c1
  have c6 := hM.c6
  have ff := hM.ff
  have hlt := hM.lt
  clear hN hM
  by_cases h1 : 256 < nm.size ∨ 256 < lk.size
  · have HE := Lib.hid (hgo h1)
    clear hgo
    by_cases h2 : 256 < nm.size
    · have hb : (256 : Int) < (nm.size : Int) := by omega
      clear h1 h2
      go_wp2_with fail
      exact hQ.ret _ _ _ _ _ rfl rfl rfl (RefR.err HE.out rfl (by simp) hB)
    · have hb : (nm.size : Int) ≤ 256 := by omega
      have hb2 : (256 : Int) < (lk.size : Int) := by omega
      clear h1 h2
      go_wp2_with fail
      exact hQ.ret _ _ _ _ _ rfl rfl rfl (RefR.err HE.out rfl (by simp) hB)
  · have FI2 := Lib.hid (FIN.out h1)
    have hb : (nm.size : Int) ≤ 256 := by omega
    have hb2 : (lk.size : Int) ≤ 256 := by omega
    clear h1 hgo FIN
    by_cases hk : kind = 48
    · have hkb : ((kind.toNat : Int) == 48) = true := by rw [hk]; rfl
      have HX := Lib.hid (show (if kind = 48 then D else ⟨#[]⟩) = D from if_pos hk)
      have hM2 := Lib.hid (HM.out.data D)
      rw [HX.out] at FI2
      clear hk
      go_wp2_with fail
      exact FI2.out _ _ ⟨⟨rfl, rfl, rfl, rfl, rfl, rfl, rfl, rfl⟩, rfl, rfl, rfl, rfl, rfl, rfl⟩ hM2.out
    · have hkb : ((kind.toNat : Int) == 48) = false := beq_eq_false_iff_ne.2 fun e => hk (byte_eq (d := 48) e)
      have HX := Lib.hid (show (if kind = 48 then D else ⟨#[]⟩) = (⟨#[]⟩ : ByteArray) from if_neg hk)
      rw [HX.out] at FI2
      clear hk
      go_wp2_with fail
      exact FI2.out _ _ ⟨⟨rfl, rfl, rfl, rfl, rfl, rfl, rfl, rfl⟩, rfl, rfl, rfl, rfl, rfl, rfl⟩ HM.out
set_option maxRecDepth 100000 in
set_option maxHeartbeats 4000000 in
theorem ref_mem8 (D : ByteArray) (xs ys : List Rec) (fs : List FileM) (p' f' : Nat) (w1 : World) (nm lk dt pre : ByteArray) (hFm : Fm s h lo named fv x y p' size mode time kind D p w1.heap.size pre t) (hM : MI w1 nm lk dt kind mode size time w)
    (hC : Ctx s w0 w1 fv x y xs ys fs p w) (hQ : Qs s w0 p Q) (hfl : fs.length < 1024) (hpp : p < p') (hle : p' ≤ s.size) (hal : p' % 512 = 0 ∨ p' = s.size) (hf : s.size - p' ≤ f')
    (hgo : readM s.size (bl s) 0 st0 = readM f' (bl s) p' (stOf [] ys lo false (fs ++ [⟨bl nm, bl lk, kind, mode, size, time, bl dt⟩]))) :
    Code.wp Tryd.prog (cDrop 40 refBody) Q ⟨t, []⟩ w := by
  obtain ⟨i0, hi, hz0, hz1, hz2⟩ := info_parts info38
  obtain ⟨hF, h11, h20, h31, h32, h35, h36⟩ := hFm
  obtain ⟨hsz, h0, h5, h6, h7, h8, h9, h10⟩ := hF
  obtain ⟨u, rfl⟩ := spread t hsz
  replace h0 : u 0 = .string s := Option.some.inj h0
  replace h5 : u 5 = fv := Option.some.inj h5
  replace h6 : u 6 = x := Option.some.inj h6
  replace h7 : u 7 = y := Option.some.inj h7
  replace h8 : u 8 = .string lo := Option.some.inj h8
  replace h9 : u 9 = .bool named := Option.some.inj h9
  replace h10 : u 10 = .int .i64 p' := Option.some.inj h10
  replace h11 : u 11 = .string h := Option.some.inj h11
  replace h20 : u 20 = .int .u8 kind.toNat := Option.some.inj h20
  replace h31 : u 31 = .string D := Option.some.inj h31
  replace h32 : u 32 = .int .i64 p := Option.some.inj h32
  replace h35 : u 35 = .pointer (some ⟨w1.heap.size, 0, none⟩) := Option.some.inj h35
  replace h36 : u 36 = .string pre := Option.some.inj h36
  rw [h0, h5, h6, h7, h8, h9, h10, h11, h20, h31, h32, h35, h36]
  clear h0 h5 h6 h7 h8 h9 h10 h11 h20 h31 h32 h35 h36 hsz
  dsimp only [cUpto, refBody, refLoop, refTop, cDrop, cLeft, cRight, cBlk, cLoop, Tryd.f8, Option.getD]
  have HGO := Lib.hid hgo
  have c0 := hM.c0
  have c1 := hM.c1
  have c2 := hM.c2
  have c3 := hM.c3
  have c4 := hM.c4
  have c5 := hM.c5
  have c6 := hM.c6
  have ff := hM.ff
  have hlt := hM.lt
  have HC := Lib.hid hC
  have HAL := Lib.hid hal
  have hrs := hC.rs
  have hxy := hC.k.xy
  clear hC hM hgo hal
  have HA := Lib.hid (hrs.kept ((Below.refl _ w).alloc (Nat.le_refl _) (.cells #[.string nm, .string lk, .int .u8 kind.toNat, .int .i64 mode, .int .i64 size, .int .i64 time, .string dt] 38)))
  have HBA := Lib.hid ((HC.out.k.b.trans (HC.out.b.mono HC.out.k.rs.lt)).alloc hrs.lt (.cells #[.string nm, .string lk, .int .u8 kind.toNat, .int .i64 mode, .int .i64 size, .int .i64 time, .string dt] 38))
  have HO := Lib.hid hrs
  have hle0 := hrs.lt
  clear hrs
  go_wp2_with (at_builtin; refine wpList_append_own _ rfl _ _ 29 rfl w0.heap.size 38 i0 _ 7 80 Tryd.underlying29 hi hz0 hz1 hz2 rfl (by decide) _ _ _ rfl HA.out.rf ⟨w.heap.size, 0, none⟩ 1 1 [.string nm, .string lk, .int .u8 kind.toNat, .int .i64 mode, .int .i64 size, .int .i64 time, .string dt] rfl rfl ?c1 ?c2 ?c3 ?c4 ?c5 ?_)
  case c1 => exact new_cells _ [_, _, _, _, _, _, _] _ _ rfl
  case c2 => intro u hu; simp at hu; rcases hu with rfl | rfl | rfl | rfl | rfl | rfl | rfl <;> rfl
  case c3 => unfold maxLen; omega
  case c4 => omega
  case c5 => simp; omega
  intro v' w2 hown' hgrow _
  have HR2 := Lib.hid (HA.out.pushF (f := ⟨bl nm, bl lk, kind, mode, size, time, bl dt⟩) hown' hgrow)
  have HB2 := Lib.hid (HA.out.below HBA.out rfl (.inr (.inr rfl)) hgrow)
  clear hown' hgrow c0 c1 c2 c3 c4 c5 c6 ff hlt
  go_wp2_with fail
  exact (hQ.next _ _ _ hpp ⟨_, _, _, lo, false, [], ys, fs ++ [⟨bl nm, bl lk, kind, mode, size, time, bl dt⟩], f', ⟨rfl, rfl, rfl, rfl, rfl, rfl, rfl, rfl⟩, ⟨hle, HAL.out, by rw [List.length_append, List.length_singleton]; omega, by simp; omega, by simp, HC.out.k.yl, HR2.out.clear, HB2.out⟩, hf, HGO.out⟩).1
end
end Tp
end Go.Proofs.YtiehjmjobcklmaaDoor
