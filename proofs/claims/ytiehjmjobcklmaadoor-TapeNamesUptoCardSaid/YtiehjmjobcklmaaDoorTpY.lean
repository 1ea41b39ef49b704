/- Walks: may a file be written? -/
import Derived.Test.YtiehjmjobcklmaaDoorTpX
import Derived.Test.YtiehjmjobcklmaaDoorTp0b
namespace Go.Proofs.YtiehjmjobcklmaaDoor
open Go.RowKit Go.Shelf Go.Lib
namespace Tp
def badA (dt : Bs) (kind : UInt8) (mode size time : Int) : Prop := mode < 0 ∨ 4095 < mode ∨ time < 0 ∨ 4294967296 ≤ time ∨ kind.toNat < 48 ∨ 54 < kind.toNat ∨ size ≠ dt.length ∨ (dt ≠ [] ∧ kind.toNat ≠ 48)
def badN (nm lk : Bs) : Prop := nm = [] ∨ (0 : UInt8) ∈ nm ++ lk ∨ (10 : UInt8) ∈ nm ++ lk
open Classical in
noncomputable def goodC (nm lk dt : Bs) (kind : UInt8) (mode size time : Int) : Nat :=
  if badA dt kind mode size time then 1 else if 256 < nm.length ∨ 256 < lk.length then 2 else if badN nm lk then 15 else 0
theorem goodC_1 {nm lk dt : Bs} {kind : UInt8} {mode size time : Int} (h : badA dt kind mode size time) : goodC nm lk dt kind mode size time = 1 := by unfold goodC; rw [if_pos h]
theorem goodC_2 {nm lk dt : Bs} {kind : UInt8} {mode size time : Int} (h : ¬ badA dt kind mode size time) (h2 : 256 < nm.length ∨ 256 < lk.length) : goodC nm lk dt kind mode size time = 2 := by unfold goodC; rw [if_neg h, if_pos h2]
theorem goodC_15 {nm lk dt : Bs} {kind : UInt8} {mode size time : Int} (h : ¬ badA dt kind mode size time) (h2 : ¬ (256 < nm.length ∨ 256 < lk.length)) (h3 : badN nm lk) : goodC nm lk dt kind mode size time = 15 := by unfold goodC; rw [if_neg h, if_neg h2, if_pos h3]
theorem goodC_0 {nm lk dt : Bs} {kind : UInt8} {mode size time : Int} (h : ¬ badA dt kind mode size time) (h2 : ¬ (256 < nm.length ∨ 256 < lk.length)) (h3 : ¬ badN nm lk) : goodC nm lk dt kind mode size time = 0 := by unfold goodC; rw [if_neg h, if_neg h2, if_neg h3]
def GoodR (c : Nat) (w : World) (e : Ending) (w' : World) : Prop := e = .returned (.int .i64 c) ∧ Below w.heap.size w w'
theorem GoodR.of {c d : Nat} {x : Int} {w w' : World} (hc : c = d) (hx : x = d) (hb : Below w.heap.size w w') : GoodR c w (.returned (.int .i64 x)) w' := by subst hc; subst hx; exact ⟨rfl, hb⟩
def idxB (l : Bs) (c : UInt8) : Int := Lib.indexByte l c
theorem takeTo_lt (c : UInt8) : ∀ l : Bs, (takeTo c l).length < l.length ↔ c ∈ l
  | [] => by simp [takeTo]
  | x :: l => by
    have ih := takeTo_lt c l
    by_cases h : x = c
    · subst h; simp [takeTo]
    · have e : takeTo c (x :: l) = x :: takeTo c l := by simp [takeTo, h]
      have h' : ¬ c = x := fun e => h e.symm
      rw [e, List.length_cons, List.length_cons, List.mem_cons, ← ih]
      simp [h']
theorem idx_nonneg {l : Bs} {c : UInt8} : 0 ≤ idxB l c ↔ c ∈ l := by
  have h := indexByte_takeTo l c
  unfold idxB
  rw [h, ← takeTo_lt]
  by_cases hl : (takeTo c l).length < l.length
  · rw [if_pos hl]; simp only [hl, iff_true]; omega
  · rw [if_neg hl]; simp only [hl, iff_false]; omega
theorem idx_any (s : ByteArray) (c : Nat) (w : World) : Calls Tryd.prog 43 #[.string s, .int .u8 (c : Int)] w fun e w' => e = .returned (.int .i64 (idxB (bl s) (UInt8.ofNat c))) ∧ w = w' := by
  refine (Tryd.strings_IndexByte s c w).mono ?_
  rintro e w' ⟨rfl, rfl⟩
  exact ⟨rfl, rfl⟩
set_option maxRecDepth 100000 in
set_option maxHeartbeats 4000000 in
theorem good_any (nm lk dt : ByteArray) (kind : UInt8) (mode size time : Int) (w : World) :
    Calls Tryd.prog 20 #[.agg #[.string nm, .string lk, .int .u8 kind.toNat, .int .i64 mode, .int .i64 size, .int .i64 time, .string dt]] w (GoodR (goodC (bl nm) (bl lk) (bl dt) kind mode size time) w) := by
  have hB : Below w.heap.size w (w.alloc (.cells #[.string nm, .string lk, .int .u8 kind.toNat, .int .i64 mode, .int .i64 size, .int .i64 time, .string dt] 36)) := (Below.refl _ _).alloc (Nat.le_refl _) _
  have HB := Lib.hid hB
  have hkb : kind.toNat < 256 := kind.toNat_lt
  clear hB

  by_cases a1 : mode < 0
  · have HX := Lib.hid (goodC_1 (nm := bl nm) (lk := bl lk) (dt := bl dt) (kind := kind) (mode := mode) (size := size) (time := time) (.inl a1))
    go_enter Tryd.func20, Tryd.ntmps20
    go_wp2_with fail
    go_ret
    exact GoodR.of HX.out rfl HB.out
  have f1 : 0 ≤ mode := by omega
  by_cases a2 : 4095 < mode
  · have HX := Lib.hid (goodC_1 (nm := bl nm) (lk := bl lk) (dt := bl dt) (kind := kind) (mode := mode) (size := size) (time := time) (.inr (.inl a2)))
    go_enter Tryd.func20, Tryd.ntmps20
    go_wp2_with fail
    go_ret
    exact GoodR.of HX.out rfl HB.out
  have f2 : mode ≤ 4095 := by omega
  by_cases a3 : time < 0
  · have HX := Lib.hid (goodC_1 (nm := bl nm) (lk := bl lk) (dt := bl dt) (kind := kind) (mode := mode) (size := size) (time := time) (.inr (.inr (.inl a3))))
    go_enter Tryd.func20, Tryd.ntmps20
    go_wp2_with fail
    go_ret
    exact GoodR.of HX.out rfl HB.out
  have f3 : 0 ≤ time := by omega
  by_cases a4 : 4294967296 ≤ time
  · have HX := Lib.hid (goodC_1 (nm := bl nm) (lk := bl lk) (dt := bl dt) (kind := kind) (mode := mode) (size := size) (time := time) (.inr (.inr (.inr (.inl a4)))))
    go_enter Tryd.func20, Tryd.ntmps20
    go_wp2_with fail
    go_ret
    exact GoodR.of HX.out rfl HB.out
  have f4 : time < 4294967296 := by omega
  by_cases a5 : kind.toNat < 48
  · have HX := Lib.hid (goodC_1 (nm := bl nm) (lk := bl lk) (dt := bl dt) (kind := kind) (mode := mode) (size := size) (time := time) (.inr (.inr (.inr (.inr (.inl a5))))))
    have g5 : (kind.toNat : Int) < 48 := by omega
    clear a5
    go_enter Tryd.func20, Tryd.ntmps20
    go_wp2_with fail
    go_ret
    exact GoodR.of HX.out rfl HB.out
  have f5 : (48 : Int) ≤ (kind.toNat : Int) := by omega
  by_cases a6 : 54 < kind.toNat
  · have HX := Lib.hid (goodC_1 (nm := bl nm) (lk := bl lk) (dt := bl dt) (kind := kind) (mode := mode) (size := size) (time := time) (.inr (.inr (.inr (.inr (.inr (.inl a6)))))))
    have g6 : (54 : Int) < (kind.toNat : Int) := by omega
    clear a6
    go_enter Tryd.func20, Tryd.ntmps20
    go_wp2_with fail
    go_ret
    exact GoodR.of HX.out rfl HB.out
  have f6 : (kind.toNat : Int) ≤ 54 := by omega
  by_cases a7 : size ≠ (dt.size : Int)
  · have HX := Lib.hid (goodC_1 (nm := bl nm) (lk := bl lk) (dt := bl dt) (kind := kind) (mode := mode) (size := size) (time := time) (.inr (.inr (.inr (.inr (.inr (.inr (.inl (by rw [bl_length]; exact a7)))))))))
    have g7 : (size != (dt.size : Int)) = true := bne_iff_ne.2 a7
    clear a7
    go_enter Tryd.func20, Tryd.ntmps20
    go_wp2_with fail
    go_ret
    exact GoodR.of HX.out rfl HB.out
  have f7 : (size != (dt.size : Int)) = false := by rw [bne_eq_false_iff_eq]; omega
  by_cases a8 : bl dt ≠ [] ∧ kind.toNat ≠ 48
  · have HX := Lib.hid (goodC_1 (nm := bl nm) (lk := bl lk) (dt := bl dt) (kind := kind) (mode := mode) (size := size) (time := time) (.inr (.inr (.inr (.inr (.inr (.inr (.inr a8))))))))
    have g8 := tl_no (x := dt) (l := []) a8.1
    have g9 : ((kind.toNat : Int) != 48) = true := bne_iff_ne.2 (by have := a8.2; omega)
    clear a1 a2 a3 a4 a5 a6 a7 a8
    go_enter Tryd.func20, Tryd.ntmps20
    go_wp2_with fail
    go_ret
    exact GoodR.of HX.out rfl HB.out
  have hA : ¬ badA (bl dt) kind mode size time := by
    unfold badA
    rw [bl_length]
    rintro (h | h | h | h | h | h | h | h)
    · exact a1 h
    · exact a2 h
    · exact a3 h
    · exact a4 h
    · exact a5 h
    · exact a6 h
    · exact a7 h
    · exact a8 h
  have HA := Lib.hid hA
  have h8 : ((dt.toList == []) = true) ∨ ((dt.toList == []) = false ∧ ((kind.toNat : Int) != 48) = false) := by
    by_cases h : bl dt = []
    · exact .inl (tl_yes h)
    · exact .inr ⟨tl_no h, by rw [bne_eq_false_iff_eq]; have h9 : kind.toNat = 48 := Classical.byContradiction fun h' => a8 ⟨h, h'⟩; omega⟩
  clear a1 a2 a3 a4 a5 a6 a7 a8 hA
  by_cases b1 : 256 < nm.size ∨ 256 < lk.size
  · have HX := Lib.hid (goodC_2 HA.out (nm := bl nm) (lk := bl lk) (by rw [bl_length, bl_length]; exact b1))
    have hb : (256 : Int) < (nm.size : Int) ∨ ((nm.size : Int) ≤ 256 ∧ (256 : Int) < (lk.size : Int)) := by omega
    clear b1
    rcases h8 with g8 | ⟨g8, g9⟩
    all_goals
      rcases hb with g1 | ⟨g1, g2⟩
      all_goals
        go_enter Tryd.func20, Tryd.ntmps20
        go_wp2_with fail
        go_ret
        exact GoodR.of HX.out rfl HB.out
  have HN := Lib.hid b1
  have n1 : (nm.size : Int) ≤ 256 := by omega
  have n2 : (lk.size : Int) ≤ 256 := by omega
  clear b1
  by_cases c1 : bl nm = []
  · have HX := Lib.hid (goodC_15 HA.out (nm := bl nm) (lk := bl lk) (by rw [bl_length, bl_length]; exact HN.out) (.inl c1))
    have g1 := tl_yes c1
    clear c1
    rcases h8 with g8 | ⟨g8, g9⟩
    all_goals
      go_enter Tryd.func20, Tryd.ntmps20
      go_wp2_with fail
      go_ret
      exact GoodR.of HX.out rfl HB.out
  have g1 := tl_no c1
  have hap : bl (nm ++ lk) = bl nm ++ bl lk := bl_append' nm lk
  obtain ⟨x0, hx0⟩ : ∃ x, x = idxB (bl (nm ++ lk)) (UInt8.ofNat 0) := ⟨_, rfl⟩
  obtain ⟨x1, hx1⟩ : ∃ x, x = idxB (bl (nm ++ lk)) (UInt8.ofNat 10) := ⟨_, rfl⟩
  have C0 := Lib.hid (fun W => (idx_any (nm ++ lk) 0 W))
  have C1 := Lib.hid (fun W => (idx_any (nm ++ lk) 10 W))
  rw [← hx0] at C0
  rw [← hx1] at C1
  by_cases c2 : (0 : UInt8) ∈ bl nm ++ bl lk
  · have HX := Lib.hid (goodC_15 HA.out (nm := bl nm) (lk := bl lk) (by rw [bl_length, bl_length]; exact HN.out) (.inr (.inl c2)))
    have i0 : 0 ≤ x0 := by rw [hx0]; exact idx_nonneg.2 (by rw [hap]; exact c2)
    clear c1 c2 hap hx0 hx1
    rcases h8 with g8 | ⟨g8, g9⟩
    all_goals
      go_enter Tryd.func20, Tryd.ntmps20
      go_wp2_with fail
      refine (C0.out _).mono ?_
      rintro e w' ⟨rfl, rfl⟩
      go_wp2_with fail
      go_ret
      exact GoodR.of HX.out rfl HB.out
  have i0 : x0 < 0 := Int.not_le.1 fun h => c2 (by rw [hx0] at h; have := idx_nonneg.1 h; rw [hap] at this; exact this)
  by_cases c3 : (10 : UInt8) ∈ bl nm ++ bl lk
  · have HX := Lib.hid (goodC_15 HA.out (nm := bl nm) (lk := bl lk) (by rw [bl_length, bl_length]; exact HN.out) (.inr (.inr c3)))
    have i1 : 0 ≤ x1 := by rw [hx1]; exact idx_nonneg.2 (by rw [hap]; exact c3)
    clear c1 c2 c3 hap hx0 hx1
    rcases h8 with g8 | ⟨g8, g9⟩
    all_goals
      go_enter Tryd.func20, Tryd.ntmps20
      go_wp2_with fail
      refine (C0.out _).mono ?_
      rintro e w' ⟨rfl, rfl⟩
      go_wp2_with fail
      refine (C1.out _).mono ?_
      rintro e w' ⟨rfl, rfl⟩
      go_wp2_with fail
      go_ret
      exact GoodR.of HX.out rfl HB.out
  have i1 : x1 < 0 := Int.not_le.1 fun h => c3 (by rw [hx1] at h; have := idx_nonneg.1 h; rw [hap] at this; exact this)
  have HX := Lib.hid (goodC_0 HA.out (nm := bl nm) (lk := bl lk) (by rw [bl_length, bl_length]; exact HN.out) (fun h => h.elim c1 fun h => h.elim c2 c3))
  clear c1 c2 c3 hap hx0 hx1
  rcases h8 with g8 | ⟨g8, g9⟩
  all_goals
    go_enter Tryd.func20, Tryd.ntmps20
    go_wp2_with fail
    refine (C0.out _).mono ?_
    rintro e w' ⟨rfl, rfl⟩
    go_wp2_with fail
    refine (C1.out _).mono ?_
    rintro e w' ⟨rfl, rfl⟩
    go_wp2_with fail
    go_ret
    exact GoodR.of HX.out rfl HB.out
end Tp
end Go.Proofs.YtiehjmjobcklmaaDoor
