/- Walks: tape.numbers. -/
import Derived.Test.YtiehjmjobcklmaaDoorTp6
import Derived.RegionCalls
import Derived.IntWalk
import Derived.Deep.DeepCutAuto
namespace Go.Proofs.YtiehjmjobcklmaaDoor
open Go.RowKit Go.Shelf Go.Lib
namespace Tp
def sumFrom (i acc : Nat) : Bs → Nat
  | [] => acc
  | c :: l => sumFrom (i + 1) (if 148 ≤ i ∧ i < 156 then acc + 32 else acc + c.toNat) l
def numbersM (h : Bs) : Except (Nat × Nat) (Nat × Nat × Nat) :=
  match number (fld h 148 8) with
  | none => .error (14, 148)
  | some want =>
    if sumFrom 0 0 h ≠ want then .error (10, 148) else
    match number (fld h 124 12) with
    | none => .error (14, 124)
    | some size => match number (fld h 100 8) with
      | none => .error (14, 100)
      | some mode => match number (fld h 136 12) with
        | none => .error (14, 136)
        | some time => .ok (mode, size, time)
def NumR (h : Bs) (p : Nat) (w : World) (e : Ending) (w' : World) : Prop :=
  ∃ a b c d f : Int, e = .returned (.tuple #[.agg #[.int .i64 a, .int .i64 b, .int .i64 c], .agg #[.int .i64 d, .int .i64 f]]) ∧ Below w.heap.size w w' ∧
    match numbersM h with
    | .error (code, off) => d = code ∧ f = ((p + off : Nat) : Int) ∧ d ≠ 0
    | .ok (mode, size, time) => d = 0 ∧ f = 0 ∧ a = mode ∧ b = size ∧ c = time

theorem numRes_none' {s : ByteArray} {w : World} (h : number (bl s) = none) (hs : s.size ≤ 16777216) :
    Calls Tryd.prog 11 #[.string s] w fun e w' => e = .returned (.tuple #[.int .i64 0, .bool false]) ∧ Below w.heap.size w w' :=
  (number_any s w hs).mono fun _ _ h' => by rw [h] at h'; exact h'
theorem numRes_some' {s : ByteArray} {n : Nat} {w : World} (h : number (bl s) = some n) (hs : s.size ≤ 16777216) :
    Calls Tryd.prog 11 #[.string s] w fun e w' => e = .returned (.tuple #[.int .i64 n, .bool true]) ∧ Below w.heap.size w w' :=
  (number_any s w hs).mono fun _ _ h' => by rw [h] at h'; exact h'

/-- the two blocks of the results -/
structure Two (B : Nat) (x y z c a : Int) (w : World) : Prop where
  p : w.heap[B]? = some (.cells #[.int .i64 x, .int .i64 y, .int .i64 z] 82 (0, 0))
  q : w.heap[B + 1]? = some (.cells #[.int .i64 c, .int .i64 a] 26 (0, 0))
theorem Two.c0 {B : Nat} {x y z c a : Int} {w : World} (h : Two B x y z c a w) : w.cell? ⟨B, 0, none⟩ = some (.int .i64 x) := by rw [cell_of_row _ _ _ _ _ _ h.p]; rfl
theorem Two.c1 {B : Nat} {x y z c a : Int} {w : World} (h : Two B x y z c a w) : w.cell? ⟨B, 1, none⟩ = some (.int .i64 y) := by rw [cell_of_row _ _ _ _ _ _ h.p]; rfl
theorem Two.c2 {B : Nat} {x y z c a : Int} {w : World} (h : Two B x y z c a w) : w.cell? ⟨B, 2, none⟩ = some (.int .i64 z) := by rw [cell_of_row _ _ _ _ _ _ h.p]; rfl
theorem Two.d0 {B : Nat} {x y z c a : Int} {w : World} (h : Two B x y z c a w) : w.cell? ⟨B + 1, 0, none⟩ = some (.int .i64 c) := by rw [cell_of_row _ _ _ _ _ _ h.q]; rfl
theorem Two.d1 {B : Nat} {x y z c a : Int} {w : World} (h : Two B x y z c a w) : w.cell? ⟨B + 1, 1, none⟩ = some (.int .i64 a) := by rw [cell_of_row _ _ _ _ _ _ h.q]; rfl
theorem Two.fp {B : Nat} {x y z c a : Int} {w : World} (h : Two B x y z c a w) (i : Nat) : w.frozen? ⟨B, i, none⟩ = false := by simp [World.frozen?, h.p]
theorem Two.fq {B : Nat} {x y z c a : Int} {w : World} (h : Two B x y z c a w) (i : Nat) : w.frozen? ⟨B + 1, i, none⟩ = false := by simp [World.frozen?, h.q]
theorem Two.below {B : Nat} {x y z c a : Int} {w w' : World} (h : Two B x y z c a w) {K : Nat} (hb : Below K w w') (hK : B + 2 ≤ K) : Two B x y z c a w' :=
  ⟨(hb.block _ (by omega)).trans h.p, (hb.block _ (by omega)).trans h.q⟩
theorem Two.drew {B : Nat} {x y z c a : Int} {w : World} (h : Two B x y z c a w) : Two B x y z c a w.drew := ⟨h.p, h.q⟩
theorem Two.new (w : World) : Two w.heap.size 0 0 0 0 0 ((w.alloc (.cells #[.int .i64 0, .int .i64 0, .int .i64 0] 82)).alloc (.cells #[.int .i64 0, .int .i64 0] 26)) :=
  ⟨(Below.heap_alloc _ _ _ (by simp)).trans (heap_alloc_new _ _), by
    have h := heap_alloc_new (w.alloc (.cells #[.int .i64 0, .int .i64 0, .int .i64 0] 82)) (.cells #[.int .i64 0, .int .i64 0] 26)
    simpa using h⟩

/-- the row of the three fields -/
def elemRow (B : Nat) : Array Value := #[.int .i64 124, .int .i64 12, .pointer (some ⟨B, 1, none⟩), .int .i64 100, .int .i64 8, .pointer (some ⟨B, 0, none⟩), .int .i64 136, .int .i64 12, .pointer (some ⟨B, 2, none⟩)]
def elemAt (k : Nat) : Nat × Nat × Nat := if k = 0 then (124, 12, 1) else if k = 1 then (100, 8, 0) else (136, 12, 2)
theorem elem_cells {w : World} {M B k : Nat} {t : TypeId} (h : w.heap[M]? = some (.cells (elemRow B) t (0, 0))) (hk : k < 3) :
    w.cell? ⟨M, k * 3, none⟩ = some (.int .i64 (elemAt k).1) ∧ w.cell? ⟨M, k * 3 + 1, none⟩ = some (.int .i64 (elemAt k).2.1) ∧ w.cell? ⟨M, k * 3 + 2, none⟩ = some (.pointer (some ⟨B, (elemAt k).2.2, none⟩)) := by
  rw [cell_of_row _ _ _ _ _ _ h, cell_of_row _ _ _ _ _ _ h, cell_of_row _ _ _ _ _ _ h]
  rcases k with _ | _ | _ | k
  · exact ⟨rfl, rfl, rfl⟩
  · exact ⟨rfl, rfl, rfl⟩
  · exact ⟨rfl, rfl, rfl⟩
  · omega
theorem elem_bd {k : Nat} : (elemAt k).1 + (elemAt k).2.1 ≤ 512 ∧ (elemAt k).2.2 < 3 ∧ (elemAt k).2.1 ≤ 12 := by
  unfold elemAt; split
  · decide
  · split <;> decide

/-- what lies in memory in a round over the three fields -/
structure Inp (B M E : Nat) (a n ix : Nat) (x y z : Int) (w : World) : Prop where
  two : Two B x y z 0 0 w
  row : w.heap[M]? = some (.cells (elemRow B) 107 (0, 0))
  el : w.heap[E]? = some (.cells #[.int .i64 a, .int .i64 n, .pointer (some ⟨B, ix, none⟩)] 107 (0, 0))
  lt : B + 2 ≤ M ∧ M < E ∧ E < w.heap.size
section
variable {B M E a n ix : Nat} {x y z : Int} {w w' : World}
theorem Inp.drew (h : Inp B M E a n ix x y z w) : Inp B M E a n ix x y z w.drew := ⟨h.two.drew, h.row, h.el, h.lt⟩
theorem Inp.below (h : Inp B M E a n ix x y z w) {K : Nat} (hb : Below K w w') (hK : E < K) : Inp B M E a n ix x y z w' :=
  ⟨h.two.below hb (by have := h.lt; omega), (hb.block _ (by have := h.lt; omega)).trans h.row, (hb.block _ (by omega)).trans h.el, by have := h.lt; have := hb.size; omega⟩
theorem Inp.e0 (h : Inp B M E a n ix x y z w) : w.cell? ⟨E, 0, none⟩ = some (.int .i64 a) := by rw [cell_of_row _ _ _ _ _ _ h.el]; rfl
theorem Inp.e1 (h : Inp B M E a n ix x y z w) : w.cell? ⟨E, 1, none⟩ = some (.int .i64 n) := by rw [cell_of_row _ _ _ _ _ _ h.el]; rfl
theorem Inp.e2 (h : Inp B M E a n ix x y z w) : w.cell? ⟨E, 2, none⟩ = some (.pointer (some ⟨B, ix, none⟩)) := by rw [cell_of_row _ _ _ _ _ _ h.el]; rfl
theorem Inp.old (h : Inp B M E a n ix x y z w) (hi : ix < 3) : ∃ o : Int, w.cell? ⟨B, ix, none⟩ = some (.int .i64 o) := by
  rw [cell_of_row _ _ _ _ _ _ h.two.p]
  rcases ix with _ | _ | _ | ix
  · exact ⟨_, rfl⟩
  · exact ⟨_, rfl⟩
  · exact ⟨_, rfl⟩
  · omega
theorem Inp.fr (h : Inp B M E a n ix x y z w) : w.frozen? ⟨B, ix, none⟩ = false := h.two.fp _
theorem Inp.set (h : Inp B M E a n ix x y z w) (hi : ix < 3) (v : Int) :
    Inp B M E a n ix (if ix = 0 then v else x) (if ix = 1 then v else y) (if ix = 2 then v else z) (w.setCell ⟨B, ix, none⟩ (.int .i64 v)) := by
  have hl := h.lt
  refine ⟨⟨?_, (Below.heap_setCell _ _ _ _ (by show B + 1 ≠ B; omega)).trans h.two.q⟩, (Below.heap_setCell _ _ _ _ (by show M ≠ B; omega)).trans h.row, (Below.heap_setCell _ _ _ _ (by show E ≠ B; omega)).trans h.el, by simpa [World.setCell] using h.lt⟩
  simp only [World.setCell, Array.getElem?_modify, h.two.p, if_pos]
  rcases ix with _ | _ | _ | ix
  · rfl
  · rfl
  · rfl
  · omega
end

theorem numbersM_at {h : Bs} {want k a n ix : Nat} (hw : number (fld h 148 8) = some want) (hs : sumFrom 0 0 h = want) (hel : elemAt k = (a, n, ix)) (hk : k < 3) (hn : number (fld h a n) = none)
    {y x : Nat} (hy : 1 ≤ k → number (fld h 124 12) = some y) (hx : 2 ≤ k → number (fld h 100 8) = some x) : numbersM h = .error (14, a) := by
  unfold numbersM
  rw [hw]; simp only; rw [if_neg (by rw [hs]; simp)]
  rcases k with _ | _ | _ | k
  · simp [elemAt] at hel; obtain ⟨rfl, rfl, rfl⟩ := hel; rw [hn]
  · simp [elemAt] at hel; obtain ⟨rfl, rfl, rfl⟩ := hel; rw [hy (by omega)]; simp only; rw [hn]
  · simp [elemAt] at hel; obtain ⟨rfl, rfl, rfl⟩ := hel; rw [hy (by omega), hx (by omega)]; simp only; rw [hn]
  · omega
theorem num_step {h : Bs} {k a n ix v : Nat} {x y z : Int} (hel : elemAt k = (a, n, ix)) (hk : k < 3) (hn : number (fld h a n) = some v)
    (hy : 1 ≤ k → number (fld h 124 12) = some y.toNat ∧ 0 ≤ y) (hx : 2 ≤ k → number (fld h 100 8) = some x.toNat ∧ 0 ≤ x) :
    (1 ≤ k + 1 → number (fld h 124 12) = some (if ix = 1 then (v : Int) else y).toNat ∧ 0 ≤ (if ix = 1 then (v : Int) else y)) ∧ (2 ≤ k + 1 → number (fld h 100 8) = some (if ix = 0 then (v : Int) else x).toNat ∧ 0 ≤ (if ix = 0 then (v : Int) else x)) ∧
      (3 ≤ k + 1 → number (fld h 136 12) = some (if ix = 2 then (v : Int) else z).toNat ∧ 0 ≤ (if ix = 2 then (v : Int) else z)) := by
  rcases k with _ | _ | _ | k
  · simp [elemAt] at hel; obtain ⟨rfl, rfl, rfl⟩ := hel; exact ⟨fun _ => ⟨by simpa using hn, by simp⟩, by omega, by omega⟩
  · simp [elemAt] at hel; obtain ⟨rfl, rfl, rfl⟩ := hel; exact ⟨fun _ => by simpa using hy (by omega), fun _ => ⟨by simpa using hn, by simp⟩, by omega⟩
  · simp [elemAt] at hel; obtain ⟨rfl, rfl, rfl⟩ := hel; exact ⟨fun _ => by simpa using hy (by omega), fun _ => by simpa using hx (by omega), fun _ => ⟨by simpa using hn, by simp⟩⟩
  · omega

set_option maxRecDepth 100000 in
set_option maxHeartbeats 4000000 in
theorem numbers_any (h : ByteArray) (p : Nat) (w : World) (hs : h.size = 512) (hp : p ≤ 16777216) :
    Calls Tryd.prog 35 #[.string h, .int .i64 p] w (NumR (bl h) p w) := by
  have HS := Lib.hid hs
  have hs1 : h.size ≤ 512 := by omega
  have hs2 : 512 ≤ h.size := by omega
  clear hs
  have hfl : ∀ W, (Instr.field 87 (.agg #[.int .i64 148, .int .i64 8]) 0).run Tryd.prog W = .ok (.int .i64 148) W := fun _ => by kernel_rfl
  have hfl1 : ∀ W, (Instr.field 87 (.agg #[.int .i64 148, .int .i64 8]) 1).run Tryd.prog W = .ok (.int .i64 8) W := fun _ => by kernel_rfl
  go_enter Tryd.func35, Tryd.ntmps35
  go_wp2_with fail
  have hT := Two.new w
  have hN : w.heap.size + 2 ≤ ((w.alloc (.cells #[.int .i64 0, .int .i64 0, .int .i64 0] 82)).alloc (.cells #[.int .i64 0, .int .i64 0] 26)).heap.size := by simp
  have hB : Below w.heap.size w ((w.alloc (.cells #[.int .i64 0, .int .i64 0, .int .i64 0] 82)).alloc (.cells #[.int .i64 0, .int .i64 0] 26)) := ((Below.refl _ _).alloc (Nat.le_refl _) _).alloc (by simp) _
  revert hT hN hB
  generalize ((w.alloc (.cells #[.int .i64 0, .int .i64 0, .int .i64 0] 82)).alloc (.cells #[.int .i64 0, .int .i64 0] 26)) = w0
  intro hT hN hB
  refine (sum_any _).mono ?_
  rintro e w1 ⟨rfl, hb1⟩
  replace hT := hT.below hb1 (by omega)
  replace hB := hB.trans (hb1.mono (by omega))
  replace hN := Nat.le_trans hN hb1.size
  clear hb1
  go_wp2_with fail
  refine (of_any h 148 8 _ (by omega) (by omega)).mono ?_
  rintro e w2 ⟨r, rfl, hr, hrs, hb2⟩
  replace hT := hT.below hb2 (by omega)
  replace hB := hB.trans (hb2.mono (by omega))
  replace hN := Nat.le_trans hN hb2.size
  clear hb2
  have HR := Lib.hid hr; clear hr
  have hrs8 : r.size ≤ 8 := by omega
  clear hrs
  go_wp2_with fail
  rcases hn : number (bl r) with _ | want
  · have HM := Lib.hid (show numbersM (bl h) = .error (14, 148) by rw [numbersM, ← HR.out, hn])
    refine (numRes_none' hn (by omega)).mono ?_
    rintro e w3 ⟨rfl, hb3⟩
    replace hT := hT.below hb3 (by omega)
    replace hB := hB.trans (hb3.mono (by omega))
    replace hN := Nat.le_trans hN hb3.size
    clear hb3 hn
    have c0 := hT.c0
    have c1 := hT.c1
    have c2 := hT.c2
    have d0 := hT.d0
    have d1 := hT.d1
    have f0 := hT.fp
    have f1 := hT.fq
    go_wp2_with fail
    have hTd := hT.drew
    have hwr : IntKind.i64.wrap ((p : Int) + 148) = (p : Int) + 148 := IntWalk.i64_in _ (by omega)
    go_region_with (go_at_call 51; refine (sum_any _).mono ?_; rintro e w4 ⟨rfl, hb4⟩; have hT4 := hTd.below hb4 (by simpa using hN); have e0 := hT4.c0; have e1 := hT4.c1; have e2 := hT4.c2; have g0 := hT4.fp; have g1 := hT4.fq; have e3 := hT4.d0; have e4 := hT4.d1; have hB4 := hB.drew.trans (hb4.mono (by simp; omega)))
    all_goals
      go_wp2_with fail
      refine bodyPost_ret (v := .tuple #[.agg #[.int .i64 0, .int .i64 0, .int .i64 0], .agg #[.int .i64 14, .int .i64 ((p : Int) + 148)]]) (by simp [results, Tryd.results35, go_sem, e0, e1, e2, e3, e4]) rfl ⟨0, 0, 0, 14, (p : Int) + 148, rfl, ?_, by rw [HM.out]; exact ⟨rfl, by simp, by decide⟩⟩
      repeat (first | exact hB4 | refine Below.setCell ?_ (by simp) _)
  · refine (numRes_some' hn (by omega)).mono ?_
    rintro e w3 ⟨rfl, hb3⟩
    replace hT := hT.below hb3 (by omega)
    replace hB := hB.trans (hb3.mono (by omega))
    replace hN := Nat.le_trans hN hb3.size
    clear hb3
    have hn' : number (fld (bl h) 148 8) = some want := by rw [← HR.out]; exact hn
    have HW := Lib.hid hn'
    clear hn hn'
    go_wp2_with fail
    go_loopg [8, 9, 29] h.size (fun g s _ j wr => ∃ k m : Nat, k ≤ 512 ∧ g = h.size - k ∧ m ≤ 256 * k ∧ j = .int .i64 k ∧ s = .int .i64 m ∧ sumFrom 0 0 (bl h) = sumFrom k m ((bl h).drop k) ∧
      Two w.heap.size 0 0 0 0 0 wr ∧ Below w.heap.size w wr ∧ w.heap.size + 2 ≤ wr.heap.size)
    case atStart => exact ⟨0, 0, by omega, rfl, by omega, rfl, rfl, rfl, hT, hB, hN⟩
    case round =>
      clear hT hB hN
      obtain ⟨k, m, hk, hg, hm, rfl, rfl, hd, hT, hB, hN⟩ := hrel
      have H := Lib.hid hd; clear hd
      have HG := Lib.hid hg; clear hg
      by_cases hlt : k < h.size
      · have hbk : h[k].toNat < 256 := h[k].toNat_lt
        by_cases h1 : 148 ≤ k
        · by_cases h2 : k < 156
          · have H' := Lib.hid (H.out.trans (by rw [bl_drop h k hlt, sumFrom, if_pos ⟨h1, h2⟩] : _ = sumFrom (k + 1) (m + 32) ((bl h).drop (k + 1))))
            clear H
            go_wp2_with fail
            refine (sum_any _).mono ?_
            rintro e wa ⟨rfl, hba⟩
            go_wp2_with fail
            refine (sum_any _).mono ?_
            rintro e wb ⟨rfl, hbb⟩
            go_wp2_with fail
            refine (sum_any _).mono ?_
            rintro e wc ⟨rfl, hbc⟩
            have hX : Below wr.heap.size wr wc := (hba.trans (hbb.mono hba.size)).trans (hbc.mono (Nat.le_trans hba.size hbb.size))
            replace hT := hT.below hX (by omega)
            replace hB := hB.trans (hX.mono (by omega))
            replace hN := Nat.le_trans hN hX.size
            clear hba hbb hbc hX
            go_wp2_with fail
            go_roundg (h.size - (k + 1))
            case rel => exact ⟨k + 1, m + 32, by omega, rfl, by omega, by go_num, by go_num, H'.out, hT, hB, hN⟩
            case measure => have := HG.out; omega
          · have H' := Lib.hid (H.out.trans (by rw [bl_drop h k hlt, sumFrom, if_neg (by omega)] : _ = sumFrom (k + 1) (m + h[k].toNat) ((bl h).drop (k + 1))))
            clear H
            go_wp2_with fail
            refine (sum_any _).mono ?_
            rintro e wa ⟨rfl, hba⟩
            go_wp2_with fail
            refine (sum_any _).mono ?_
            rintro e wb ⟨rfl, hbb⟩
            go_wp2_with fail
            refine (sum_any _).mono ?_
            rintro e wc ⟨rfl, hbc⟩
            have hX : Below wr.heap.size wr wc := (hba.trans (hbb.mono hba.size)).trans (hbc.mono (Nat.le_trans hba.size hbb.size))
            replace hT := hT.below hX (by omega)
            replace hB := hB.trans (hX.mono (by omega))
            replace hN := Nat.le_trans hN hX.size
            clear hba hbb hbc hX
            go_wp2_with fail
            go_roundg (h.size - (k + 1))
            case rel => exact ⟨k + 1, m + h[k].toNat, by omega, rfl, by omega, by go_num, by go_num, H'.out, hT, hB, hN⟩
            case measure => have := HG.out; omega
        · have H' := Lib.hid (H.out.trans (by rw [bl_drop h k hlt, sumFrom, if_neg (by omega)] : _ = sumFrom (k + 1) (m + h[k].toNat) ((bl h).drop (k + 1))))
          clear H
          go_wp2_with fail
          refine (sum_any _).mono ?_
          rintro e wa ⟨rfl, hX⟩
          replace hT := hT.below hX (by omega)
          replace hB := hB.trans (hX.mono (by omega))
          replace hN := Nat.le_trans hN hX.size
          clear hX
          go_wp2_with fail
          go_roundg (h.size - (k + 1))
          case rel => exact ⟨k + 1, m + h[k].toNat, by omega, rfl, by omega, by go_num, by go_num, H'.out, hT, hB, hN⟩
          case measure => have := HG.out; omega
      · have H' := Lib.hid (H.out.trans (by rw [bl_drop_end h k (by omega), sumFrom]) : sumFrom 0 0 (bl h) = m)
        clear H
        by_cases hsum : m = want
        · have hsum' : ((m : Int) != (want : Int)) = false := by rw [hsum]; simp
          have HSUM := Lib.hid (show sumFrom 0 0 (bl h) = want by rw [H'.out]; exact hsum)
          clear hsum
          go_wp2_with fail
          refine (size_any _).mono ?_
          rintro e wa ⟨rfl, hba⟩
          go_wp2_with fail
          refine (mode_any _).mono ?_
          rintro e wb ⟨rfl, hbb⟩
          go_wp2_with fail
          refine (time_any _).mono ?_
          rintro e wc ⟨rfl, hbc⟩
          have hX : Below wr.heap.size wr wc := (hba.trans (hbb.mono hba.size)).trans (hbc.mono (Nat.le_trans hba.size hbb.size))
          replace hT := hT.below hX (by omega)
          replace hB := hB.trans (hX.mono (by omega))
          replace hN := Nat.le_trans hN hX.size
          clear hba hbb hbc hX
          go_wp2_with fail
          have hrow : (wc.alloc (.cells (elemRow w.heap.size) 107)).heap[wc.heap.size]? = some (.cells (elemRow w.heap.size) 107 (0, 0)) := heap_alloc_new _ _
          have hT2 := hT.below ((Below.refl _ wc).alloc (Nat.le_refl _) (.cells (elemRow w.heap.size) 107)) hN
          have hB2 := hB.alloc (by omega) (.cells (elemRow w.heap.size) 107)
          obtain ⟨M, hM⟩ : ∃ M, M = wc.heap.size := ⟨_, rfl⟩
          rw [← hM] at hrow ⊢
          have hMs : M < (wc.alloc (.cells (elemRow w.heap.size) 107)).heap.size := by rw [hM]; simp
          have hMn : w.heap.size + 2 ≤ M := by omega
          clear hM
          go_loopg [7, 74] 3 (fun g o j wr => ∃ (k : Nat) (x y z : Int), k ≤ 3 ∧ g = 3 - k ∧ j = .int .i64 k ∧ o = .bool true ∧ Two w.heap.size x y z 0 0 wr ∧ Below w.heap.size w wr ∧ w.heap.size + 2 ≤ M ∧ M < wr.heap.size ∧
            wr.heap[M]? = some (.cells (elemRow w.heap.size) 107 (0, 0)) ∧ (1 ≤ k → number (fld (bl h) 124 12) = some y.toNat ∧ 0 ≤ y) ∧ (2 ≤ k → number (fld (bl h) 100 8) = some x.toNat ∧ 0 ≤ x) ∧ (3 ≤ k → number (fld (bl h) 136 12) = some z.toNat ∧ 0 ≤ z))
          case atStart => exact ⟨0, 0, 0, 0, by omega, rfl, rfl, rfl, hT2, hB2, hMn, hMs, hrow, by omega, by omega, by omega⟩
          case round =>
            clear hT hB hN hT2 hB2 hrow HG hMn hMs
            obtain ⟨k, x, y, z, hk, hg, rfl, rfl, hT, hB, hN, hM2, hrow, hy, hx, hz⟩ := hrel
            have HG := Lib.hid hg; clear hg
            have HY := Lib.hid hy
            have HX := Lib.hid hx
            have HZ := Lib.hid hz
            clear hx hy hz
            by_cases hlt : k < 3
            · obtain ⟨ec0, ec1, ec2⟩ := elem_cells hrow hlt
              obtain ⟨ed0, ed1, ed2⟩ := elem_bd (k := k)
              generalize hel : elemAt k = el at ec0 ec1 ec2 ed0 ed1 ed2
              obtain ⟨a, n, ix⟩ := el
              have HEL := Lib.hid hel; clear hel
              dsimp only at ec0 ec1 ec2 ed0 ed1 ed2
              have hI : Inp w.heap.size M wr.heap.size a n ix x y z (wr.alloc (.cells #[.int .i64 a, .int .i64 n, .pointer (some ⟨w.heap.size, ix, none⟩)] 107)) :=
                ⟨hT.below ((Below.refl _ wr).alloc (Nat.le_refl _) _) (by omega), (Below.heap_alloc _ _ _ hM2).trans hrow, heap_alloc_new _ _, by simp; omega⟩
              have hBI := hB.alloc (by omega) (.cells #[.int .i64 a, .int .i64 n, .pointer (some ⟨w.heap.size, ix, none⟩)] 107)
              have hID := hI.drew
              have hBD := hBI.drew
              rcases hn : number (fld (bl h) a n) with _ | v
              · have HN := Lib.hid hn; clear hn
                go_wp2_with fail
                go_cut [7] (fun o wx => o = .bool false ∧ ∃ x y z, Inp w.heap.size M wr.heap.size a n ix x y z wx ∧ Below w.heap.size w wx)
                case first =>
                  go_region_with (first | (go_at_call 60; refine (of_any h a n _ (by omega) (by omega)).mono ?_; rintro e w4 ⟨r4, rfl, hr4, hrs4, hb4⟩; have HR4 := Lib.hid hr4; clear hr4; have h4 := hID.below hb4 hID.lt.2.2; have q4 := hBD.trans (hb4.mono hBD.size); have e0 := h4.e0; have e1 := h4.e1; have e2 := h4.e2; have er := h4.fr; obtain ⟨o4, eo⟩ := h4.old ed1) | (go_at_call 11; refine (numRes_none' (by rw [HR4.out]; exact HN.out) (by omega)).mono ?_; rintro e w5 ⟨rfl, hb5⟩; have h5 := h4.below hb5 h4.lt.2.2; have q5 := q4.trans (hb5.mono q4.size); have e0' := h5.e0; have e1' := h5.e1; have e2' := h5.e2; have er' := h5.fr; obtain ⟨o5, eo'⟩ := h5.old ed1))
                  all_goals
                    go_wp2_with fail
                    go_meet
                    exact ⟨rfl, _, _, _, h5.set ed1 0, q5.setCell (by simp) _⟩
                case rest =>
                  obtain ⟨rfl, x', y', z', hI', hB'⟩ := hcut
                  have HM := Lib.hid (show numbersM (bl h) = .error (14, a) from numbersM_at HW.out HSUM.out HEL.out hlt HN.out (fun h1 => (HY.out h1).1) (fun h1 => (HX.out h1).1))
                  clear hI hBI hID hBD hT hB hrow ec0 ec1 ec2
                  have c0 := hI'.two.c0
                  have c1 := hI'.two.c1
                  have c2 := hI'.two.c2
                  have d0 := hI'.two.d0
                  have d1 := hI'.two.d1
                  have f0 := hI'.two.fp
                  have f1 := hI'.two.fq
                  have e0 := hI'.e0
                  have hwr : IntKind.i64.wrap ((p : Int) + (a : Int)) = (p : Int) + (a : Int) := IntWalk.i64_in _ (by omega)
                  go_wp2_with fail
                  go_region
                  all_goals
                    go_wp2_with fail
                    refine bodyPost_ret (v := .tuple #[.agg #[.int .i64 x', .int .i64 y', .int .i64 z'], .agg #[.int .i64 14, .int .i64 ((p : Int) + (a : Int))]]) (by simp [results, Tryd.results35, go_sem, c0, c1, c2, d0, d1]) rfl ⟨x', y', z', 14, (p : Int) + (a : Int), rfl, ?_, by rw [HM.out]; exact ⟨rfl, by simp, by decide⟩⟩
                    repeat (first | exact hB' | refine Below.drew ?_ | refine Below.setCell ?_ (by simp) _)
              · have HN := Lib.hid hn; clear hn
                go_wp2_with fail
                go_cut [7] (fun o wx => o = .bool true ∧ Inp w.heap.size M wr.heap.size a n ix (if ix = 0 then (v : Int) else x) (if ix = 1 then (v : Int) else y) (if ix = 2 then (v : Int) else z) wx ∧ Below w.heap.size w wx)
                case first =>
                  go_region_with (first | (go_at_call 60; refine (of_any h a n _ (by omega) (by omega)).mono ?_; rintro e w4 ⟨r4, rfl, hr4, hrs4, hb4⟩; have HR4 := Lib.hid hr4; clear hr4; have h4 := hID.below hb4 hID.lt.2.2; have q4 := hBD.trans (hb4.mono hBD.size); have e0 := h4.e0; have e1 := h4.e1; have e2 := h4.e2; have er := h4.fr; obtain ⟨o4, eo⟩ := h4.old ed1) | (go_at_call 11; refine (numRes_some' (by rw [HR4.out]; exact HN.out) (by omega)).mono ?_; rintro e w5 ⟨rfl, hb5⟩; have h5 := h4.below hb5 h4.lt.2.2; have q5 := q4.trans (hb5.mono q4.size); have e0' := h5.e0; have e1' := h5.e1; have e2' := h5.e2; have er' := h5.fr; obtain ⟨o5, eo'⟩ := h5.old ed1))
                  all_goals
                    go_wp2_with fail
                    go_meet
                    exact ⟨rfl, h5.set ed1 v, q5.setCell (by simp) _⟩
                case rest =>
                  obtain ⟨rfl, hI', hB'⟩ := hcut
                  clear hI hBI hID hBD hT hB hrow ec0 ec1 ec2
                  go_wp2_with fail
                  go_roundg (3 - (k + 1))
                  case rel =>
                    refine ⟨k + 1, _, _, _, by omega, rfl, by go_num, rfl, hI'.two, hB', hN, by have := hI'.lt; omega, hI'.row, ?_⟩
                    exact num_step HEL.out hlt HN.out HY.out HX.out
                  case measure => have := HG.out; omega
            · have hk3 : k = 3 := by omega
              have HK := Lib.hid hk3; clear hk3
              have hy := HY.out (by have := HK.out; omega)
              have hx := HX.out (by have := HK.out; omega)
              have hz := HZ.out (by have := HK.out; omega)
              have HM := Lib.hid (show numbersM (bl h) = .ok (x.toNat, y.toNat, z.toNat) by unfold numbersM; rw [HW.out, hy.1, hx.1, hz.1]; simp only; rw [if_neg (by rw [HSUM.out]; simp)])
              have HP := Lib.hid (show 0 ≤ x ∧ 0 ≤ y ∧ 0 ≤ z from ⟨hx.2, hy.2, hz.2⟩)
              clear hx hy hz
              have c0 := hT.c0
              have c1 := hT.c1
              have c2 := hT.c2
              have d0 := hT.d0
              have d1 := hT.d1
              have f0 := hT.fp
              have f1 := hT.fq
              go_wp2_with fail
              refine bodyPost_ret (v := .tuple #[.agg #[.int .i64 x, .int .i64 y, .int .i64 z], .agg #[.int .i64 0, .int .i64 0]]) (by simp [results, Tryd.results35, go_sem, c0, c1, c2, d0, d1]) rfl ⟨x, y, z, 0, 0, rfl, ?_, by rw [HM.out]; have := HP.out; exact ⟨rfl, rfl, by omega, by omega, by omega⟩⟩
              repeat (first | exact hB | refine Below.drew ?_ | refine Below.setCell ?_ (by simp) _)
        · have hsum' : ((m : Int) != (want : Int)) = true := bne_iff_ne.2 (by omega)
          have HM := Lib.hid (show numbersM (bl h) = .error (10, 148) by rw [numbersM, HW.out]; simp only; rw [if_pos (by rw [H'.out]; exact hsum)])
          clear hsum
          have c0 := hT.c0
          have c1 := hT.c1
          have c2 := hT.c2
          have d0 := hT.d0
          have d1 := hT.d1
          have f0 := hT.fp
          have f1 := hT.fq
          go_wp2_with fail
          have hTd := hT.drew
          have hwr : IntKind.i64.wrap ((p : Int) + 148) = (p : Int) + 148 := IntWalk.i64_in _ (by omega)
          go_region_with (go_at_call 51; refine (sum_any _).mono ?_; rintro e w4 ⟨rfl, hb4⟩; have hT4 := hTd.below hb4 (by simpa using hN); have e0 := hT4.c0; have e1 := hT4.c1; have e2 := hT4.c2; have g0 := hT4.fp; have g1 := hT4.fq; have e3 := hT4.d0; have e4 := hT4.d1; have hB4 := hB.drew.trans (hb4.mono (by simp; omega)))
          all_goals
            go_wp2_with fail
            refine bodyPost_ret (v := .tuple #[.agg #[.int .i64 0, .int .i64 0, .int .i64 0], .agg #[.int .i64 10, .int .i64 ((p : Int) + 148)]]) (by simp [results, Tryd.results35, go_sem, e0, e1, e2, e3, e4]) rfl ⟨0, 0, 0, 10, (p : Int) + 148, rfl, ?_, by rw [HM.out]; exact ⟨rfl, by simp, by decide⟩⟩
            repeat (first | exact hB4 | refine Below.setCell ?_ (by simp) _)
end Tp
end Go.Proofs.YtiehjmjobcklmaaDoor
