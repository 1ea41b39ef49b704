/- Walks: tape.Read. -/
import Derived.Test.YtiehjmjobcklmaaDoorTpB
namespace Go.Proofs.YtiehjmjobcklmaaDoor
open Go.RowKit Go.Shelf Go.Lib
namespace Tp
def zeroB (l : Bs) : Bool := l.all fun c => c == 0
def readM : Nat → Bs → Nat → StM → Except (Nat × Nat) (List FileM)
  | 0, d, p, st => if d.length ≤ p then .ok st.files else .error (3, p)
  | f + 1, d, p, st =>
    if d.length ≤ p then .ok st.files
    else if d.length - p < 512 then .error (3, p)
    else if zeroB (fld d p 512) then .ok st.files
    else match headM d (fld d p 512) p st with
      | .error x => .error x
      | .ok (p', st') => readM f d p' st'
def st0 : StM := ⟨noTold, noTold, none, []⟩
theorem memberM_files {st st' : StM} {k : UInt8} {m s t : Nat} {d h : Bs} {p : Nat} (e : memberM st k m s t d h p = .ok st') (hl : st.files.length ≤ 1024) : st'.files.length ≤ 1024 := by
  unfold memberM at e
  split at e
  · cases e
  · split at e
    · cases e
    · injection e with e; subst e; simp; omega
theorem specialM_files {st st' : StM} {k : Nat} {d : Bs} {p : Nat} (e : specialM st k d p = .ok st') : st'.files = st.files := by
  unfold specialM at e
  split at e
  · injection e with e; subst e; rfl
  · split at e
    · cases e
    · split at e
      · injection e with e; subst e; rfl
      · injection e with e; subst e; rfl
theorem headM_ok {d h : Bs} {p p' : Nat} {st st' : StM} (e : headM d h p st = .ok (p', st')) (hl : st.files.length ≤ 1024) (hp : p + 512 ≤ d.length) : st'.files.length ≤ 1024 ∧ p < p' ∧ p' ≤ d.length := by
  unfold headM at e
  split at e
  · cases e
  · split at e
    · cases e
    · split at e
      · cases e
      · split at e
        · cases e
        · split at e
          · cases e
          · rename_i hr
            injection e with e
            injection e with e1 e2
            subst e1; subst e2
            refine ⟨?_, by unfold atM; omega, by unfold atM; omega⟩
            unfold restM at hr
            split at hr
            · rw [specialM_files hr]; exact hl
            · exact memberM_files hr hl
theorem trimB_zero {l : Bs} (h : zeroB l = true) : Lib.trimB l 0 = [] := by
  have h' : ∀ x ∈ l, (x == 0) = true := fun x hx => List.all_eq_true.1 h x hx
  unfold Lib.trimB Lib.trimRightB Lib.trimLeftB
  rw [drop_all (l := l.reverse) fun x hx => h' x (by simpa using hx)]
  rfl
theorem trimB_solid {l : Bs} (h : zeroB l = false) : Lib.trimB l 0 ≠ [] := by
  have h' : ∃ x ∈ l, (x == 0) = false := by
    unfold zeroB at h
    rw [List.all_eq_false] at h
    obtain ⟨x, hx, hb⟩ := h
    exact ⟨x, hx, by simpa using hb⟩
  unfold Lib.trimB Lib.trimRightB Lib.trimLeftB
  obtain ⟨x, hx, hp⟩ := h'
  obtain ⟨y, hy, hpy⟩ := drop_some (l := l.reverse) (p := (· == (0 : UInt8))) ⟨x, by simpa using hx, hp⟩
  obtain ⟨z, hz, _⟩ := drop_some (l := (l.reverse.dropWhile (· == (0 : UInt8))).reverse) (p := (· == (0 : UInt8))) ⟨y, by simpa using hy, hpy⟩
  exact List.ne_nil_of_mem hz
theorem trim0_yes {s : ByteArray} (h : zeroB (bl s) = true) (w : World) (hs : s.size ≤ 16777216) :
    Calls Tryd.prog 12 #[.string s, .string ⟨#[0]⟩] w fun e w' => e = .returned (.string ⟨#[]⟩) ∧ ∃ n, w' = w.drewN n := by
  refine (Tryd.strings_Trim_one s 0 (by decide) w (by omega)).mono fun e w' hh => ?_
  have h1 := hh.1
  have e0 : Lib.trimB s.data.toList 0 = [] := trimB_zero h
  rw [e0] at h1
  refine ⟨h1, ?_⟩
  rcases hh.2 with h2 | h2
  · exact ⟨0, h2⟩
  · exact ⟨1, h2⟩
theorem trim0_no {s : ByteArray} (h : zeroB (bl s) = false) (w : World) (hs : s.size ≤ 16777216) :
    Calls Tryd.prog 12 #[.string s, .string ⟨#[0]⟩] w (IsStr fun r w' => r.toList.isEmpty = false ∧ ∃ n, w' = w.drewN n) := by
  refine (Tryd.strings_Trim_one s 0 (by decide) w (by omega)).mono fun e w' hh => ?_
  refine ⟨_, hh.1, by rw [ba_isEmpty, List.isEmpty_eq_false_iff]; exact trimB_solid h, ?_⟩
  rcases hh.2 with h2 | h2
  · exact ⟨0, h2⟩
  · exact ⟨1, h2⟩

def ReadR (s : ByteArray) (w : World) (e : Ending) (w' : World) : Prop :=
  Below w.heap.size w w' ∧ match readM s.size (bl s) 0 st0 with
    | .error (c, a) => e = .returned (.tuple #[.slice none 0 0, .agg #[.int .i64 c, .int .i64 a]]) ∧ c ≠ 0
    | .ok fs => ∃ v, e = .returned (.tuple #[v, .agg #[.int .i64 0, .int .i64 0]]) ∧ w'.ownsRow w.heap.size 36 7 v fs.length (filesCells fs) ∧ fs.length ≤ 1024
theorem ReadR.err {s : ByteArray} {w w' : World} {c a : Nat} {x y : Int} (h : readM s.size (bl s) 0 st0 = .error (c, a)) (hc : c ≠ 0) (hx : x = c) (hy : y = a) (hb : Below w.heap.size w w') :
    ReadR s w (.returned (.tuple #[.slice none 0 0, .agg #[.int .i64 x, .int .i64 y]])) w' := by unfold ReadR; rw [h]; subst hx; subst hy; exact ⟨hb, rfl, hc⟩
theorem ReadR.fine {s : ByteArray} {w w' : World} {fs : List FileM} {v : Value} (h : readM s.size (bl s) 0 st0 = .ok fs) (ho : w'.ownsRow w.heap.size 36 7 v fs.length (filesCells fs)) (hl : fs.length ≤ 1024) (hb : Below w.heap.size w w') :
    ReadR s w (.returned (.tuple #[v, .agg #[.int .i64 0, .int .i64 0]])) w' := by unfold ReadR; rw [h]; exact ⟨hb, v, rfl, ho, hl⟩
theorem Rd.start (w : World) (s : ByteArray) : Rd w.heap.size (w.heap.size + 1) s 0 st0 ((w.alloc (.cells #[.int .i64 0, .int .i64 0] 26)).alloc (.cells (rdArr s 0 (.slice none 0 0) (.slice none 0 0) (.slice none 0 0) (.slice none 0 0) (.slice none 0 0) (.slice none 0 0) (.slice none 0 0) (.slice none 0 0) (.slice none 0 0) (.slice none 0 0)) 50)) := by
  have h := heap_alloc_new (w.alloc (.cells #[.int .i64 0, .int .i64 0] 26)) (.cells (rdArr s 0 (.slice none 0 0) (.slice none 0 0) (.slice none 0 0) (.slice none 0 0) (.slice none 0 0) (.slice none 0 0) (.slice none 0 0) (.slice none 0 0) (.slice none 0 0) (.slice none 0 0)) 50)
  rw [show (w.alloc (.cells #[.int .i64 0, .int .i64 0] 26)).heap.size = w.heap.size + 1 from by simp] at h
  exact ⟨_, _, _, _, _, _, _, _, _, _, h, ⟨.none_ _, .none_ _, .none_ _, .none_ _⟩, ⟨.none_ _, .none_ _, .none_ _, .none_ _⟩, .none_ _, World.ownsRow_nil _ _ _ _, by omega⟩

theorem Rd.c1 {B g : Nat} {s : ByteArray} {at_ : Nat} {st : StM} {w : World} (h : Rd B g s at_ st w) : w.cell? ⟨g, 1, none⟩ = some (.int .i64 (at_ : Int)) := by
  obtain ⟨n0, n1, n2, n3, a0, a1, a2, a3, lo, fv', hg, _⟩ := h; rw [cell_of_row _ _ _ _ _ _ hg]; rfl
theorem Rd.c11 {B g : Nat} {s : ByteArray} {at_ : Nat} {st : StM} {w : World} (h : Rd B g s at_ st w) : ∃ fv, w.cell? ⟨g, 11, none⟩ = some fv ∧ w.ownsRow B 36 7 fv st.files.length (filesCells st.files) := by
  obtain ⟨n0, n1, n2, n3, a0, a1, a2, a3, lo, fv', hg, hn, ha, hl, hf, hB⟩ := h; exact ⟨fv', by rw [cell_of_row _ _ _ _ _ _ hg]; rfl, hf⟩
theorem own_sets {w : World} {B N : Nat} {fv x y : Value} {n : Nat} {xs : List Value} (h : w.ownsRow B 36 7 fv n xs) (hN : HasT w N 26) : ((w.setCell ⟨N, 0, none⟩ x).setCell ⟨N, 1, none⟩ y).ownsRow B 36 7 fv n xs := by
  have h1 := h.kept (grown_set w N 0 x) (.inr fun e => own_ne h hN (by decide) e.symm)
  exact h1.kept (grown_set _ N 1 y) (.inr fun e => own_ne h1 (hN.set N 0 x) (by decide) e.symm)
theorem readM_end {f : Nat} {d : Bs} {p : Nat} {st : StM} (h : d.length ≤ p) : readM f d p st = .ok st.files := by cases f <;> simp [readM, h]
theorem readM_cut {f : Nat} {d : Bs} {p : Nat} {st : StM} (h : p < d.length) (h2 : d.length - p < 512) : readM f d p st = .error (3, p) := by
  cases f with
  | zero => simp only [readM]; rw [if_neg (by omega)]
  | succ f => simp only [readM]; rw [if_neg (by omega), if_pos h2]
theorem readM_zero {f : Nat} {d : Bs} {p : Nat} {st : StM} (h : p < d.length) (h2 : 512 ≤ d.length - p) (hf : d.length - p ≤ f) (hz : zeroB (fld d p 512) = true) : readM f d p st = .ok st.files := by
  cases f with
  | zero => omega
  | succ f => simp only [readM]; rw [if_neg (by omega), if_neg (by omega), if_pos hz]
theorem readM_step {f : Nat} {d : Bs} {p : Nat} {st : StM} (h : p < d.length) (h2 : 512 ≤ d.length - p) (hf : d.length - p ≤ f) (hz : zeroB (fld d p 512) = false) :
    ∃ f', f = f' + 1 ∧ readM f d p st = (match headM d (fld d p 512) p st with | .error x => .error x | .ok (p', st') => readM f' d p' st') := by
  cases f with
  | zero => omega
  | succ f => exact ⟨f, rfl, by simp only [readM]; rw [if_neg (by omega), if_neg (by omega), if_neg (by rw [hz]; decide)]⟩

set_option maxRecDepth 100000 in
set_option maxHeartbeats 4000000 in
theorem read_any (s : ByteArray) (m : Int) (w : World) (hs : s.size ≤ 16777216) (hm : w.cell? ⟨2, 0, none⟩ = some (.int .i64 m)) :
    Calls Tryd.prog 7 #[.string s] w (ReadR s w) := by
  have hMB : 2 < w.heap.size := World.block_lt_of_cell? _ _ hm
  have hR0 := Rd.start w s
  have hB0 : Below w.heap.size w ((w.alloc (.cells #[.int .i64 0, .int .i64 0] 26)).alloc (.cells (rdArr s 0 (.slice none 0 0) (.slice none 0 0) (.slice none 0 0) (.slice none 0 0) (.slice none 0 0) (.slice none 0 0) (.slice none 0 0) (.slice none 0 0) (.slice none 0 0) (.slice none 0 0)) 50)) :=
    ((Below.refl _ w).alloc (Nat.le_refl _) _).alloc (by simp) _
  have hN0 : ((w.alloc (.cells #[.int .i64 0, .int .i64 0] 26)).alloc (.cells (rdArr s 0 (.slice none 0 0) (.slice none 0 0) (.slice none 0 0) (.slice none 0 0) (.slice none 0 0) (.slice none 0 0) (.slice none 0 0) (.slice none 0 0) (.slice none 0 0) (.slice none 0 0)) 50)).heap[w.heap.size]? = some (.cells #[.int .i64 0, .int .i64 0] 26 (0, 0)) :=
    (Below.heap_alloc _ _ _ (by simp)).trans (heap_alloc_new _ _)
  go_enter Tryd.func7, Tryd.ntmps7
  go_wp2_with fail
  revert hR0 hB0 hN0
  unfold rdArr
  generalize ((w.alloc (.cells #[.int .i64 0, .int .i64 0] 26)).alloc (.cells #[.string s, .int .i64 ((0 : Nat) : Int), .slice none 0 0, .slice none 0 0, .slice none 0 0, .slice none 0 0, .slice none 0 0, .slice none 0 0, .slice none 0 0, .slice none 0 0, .slice none 0 0, .slice none 0 0] 50)) = w1
  intro hR0 hB0 hN0
  go_loopg [2] s.size (fun gk v wr => ∃ (f p : Nat) (st : StM), gk = s.size - p ∧ p ≤ s.size ∧ s.size - p ≤ f ∧ st.files.length ≤ 1024 ∧ v = .slice none 0 0 ∧ readM s.size (bl s) 0 st0 = readM f (bl s) p st ∧
    Rd w.heap.size (w.heap.size + 1) s p st wr ∧ wr.heap[w.heap.size]? = some (.cells #[.int .i64 0, .int .i64 0] 26 (0, 0)) ∧ Below w.heap.size w wr)
  case atStart => exact ⟨s.size, 0, st0, by omega, Nat.zero_le _, by omega, by simp [st0], rfl, rfl, hR0, hN0, hB0⟩
  case round =>
    clear hR0 hB0 hN0
    obtain ⟨f, p, st, hg, hp, hf, hfl, rfl, hd, hR, hN, hB⟩ := hrel
    have HG := Lib.hid hg; clear hg
    have H := Lib.hid hd; clear hd
    have c1 := hR.c1
    have gf := hR.hasT.free
    have hgl := hR.lt
    have hNT : HasT wr w.heap.size 26 := ⟨_, hN⟩
    have d0 : wr.cell? ⟨w.heap.size, 0, none⟩ = some (.int .i64 0) := by rw [cell_of_row _ _ _ _ _ _ hN]; rfl
    have d1 : wr.cell? ⟨w.heap.size, 1, none⟩ = some (.int .i64 0) := by rw [cell_of_row _ _ _ _ _ _ hN]; rfl
    have df := hNT.free
    by_cases hlt : p < s.size
    case neg =>
      have HE := Lib.hid (H.out.trans (readM_end (by rw [bl_length]; omega)))
      obtain ⟨fv, c11, hown⟩ := hR.c11
      have HO := Lib.hid (own_sets (x := .int .i64 0) (y := .int .i64 0) hown hNT)
      have hBf := (hB.setCell (p := ⟨w.heap.size, 0, none⟩) (Nat.le_refl _) (.int .i64 0)).setCell (p := ⟨w.heap.size, 1, none⟩) (Nat.le_refl _) (.int .i64 0)
      clear hR hN hB hown hNT
      go_wp2_with fail
      refine bodyPost_ret (v := .tuple #[fv, .agg #[.int .i64 0, .int .i64 0]]) (by simp [results, Tryd.results7, go_sem, d0, d1]) rfl ?_
      exact ReadR.fine HE.out HO.out hfl hBf
    by_cases hcut : s.size - p < 512
    · have HE := Lib.hid (H.out.trans (readM_cut (by rw [bl_length]; exact hlt) (by rw [bl_length]; exact hcut)))
      have hcb : (s.size : Int) - (p : Int) < 512 := by omega
      have hBf := (hB.setCell (p := ⟨w.heap.size, 0, none⟩) (Nat.le_refl _) (.int .i64 3)).setCell (p := ⟨w.heap.size, 1, none⟩) (Nat.le_refl _) (.int .i64 p)
      clear hR hN hB hNT hcut
      go_wp2_with fail
      refine bodyPost_ret (v := .tuple #[.slice none 0 0, .agg #[.int .i64 3, .int .i64 p]]) (by simp [results, Tryd.results7, go_sem, d0, d1]) rfl ?_
      exact ReadR.err HE.out (by decide) rfl rfl hBf
    have hcb : 512 ≤ (s.size : Int) - (p : Int) := by omega
    have hD : bl (s.extract p (p + 512)) = fld (bl s) p 512 := by rw [bl_extract, fld]; congr 1; omega
    have hDs : (s.extract p (p + 512)).size = 512 := by simp; omega
    have HD := Lib.hid hD
    have HDS := Lib.hid hDs
    clear hD hDs hcut
    by_cases hz : zeroB (fld (bl s) p 512) = true
    · have HE := Lib.hid (H.out.trans (readM_zero (by rw [bl_length]; exact hlt) (by rw [bl_length]; omega) (by rw [bl_length]; exact hf) hz))
      have C := Lib.hid (fun W => trim0_yes (s := s.extract p (p + 512)) (by rw [HD.out]; exact hz) W (by have := HDS.out; omega))
      clear hz
      go_wp2_with fail
      refine (C.out _).mono ?_
      rintro e w' ⟨rfl, nn, rfl⟩
      obtain ⟨fv, c11, hown⟩ := hR.c11
      have HO := Lib.hid (own_sets (x := .int .i64 0) (y := .int .i64 0) (own_drewN hown nn) (hNT.drewN nn))
      have hBf := ((below_drewN hB nn).setCell (p := ⟨w.heap.size, 0, none⟩) (Nat.le_refl _) (.int .i64 0)).setCell (p := ⟨w.heap.size, 1, none⟩) (Nat.le_refl _) (.int .i64 0)
      clear hR hN hB hown hNT
      go_wp2_with fail
      refine bodyPost_ret (v := .tuple #[fv, .agg #[.int .i64 0, .int .i64 0]]) (by simp [results, Tryd.results7, go_sem, d0, d1]) rfl ?_
      exact ReadR.fine HE.out HO.out hfl hBf
    · have hz' : zeroB (fld (bl s) p 512) = false := by simpa using hz
      obtain ⟨f', hf', hstep⟩ := readM_step (st := st) (by rw [bl_length]; exact hlt) (by rw [bl_length]; omega) (by rw [bl_length]; exact hf) hz'
      have HST := Lib.hid (H.out.trans hstep)
      have HF := Lib.hid hf'
      have C := Lib.hid (fun W => trim0_no (s := s.extract p (p + 512)) (by rw [HD.out]; exact hz') W (by have := HDS.out; omega))
      clear hz hz' hstep hf'
      go_wp2_with fail
      revert C HD HDS
      generalize s.extract p (p + 512) = h
      intro HD HDS C
      refine (C.out _).mono ?_
      rintro e w' ⟨x, rfl, hx, nn, rfl⟩
      clear C
      have hR2 := (hR.drewN nn).setAt (p + 512)
      have hB2 : Below w.heap.size w ((wr.drewN nn).setCell ⟨w.heap.size + 1, 1, none⟩ (.int .i64 ((p + 512 : Nat) : Int))) := (below_drewN hB nn).setCell (p := ⟨w.heap.size + 1, 1, none⟩) (by show w.heap.size ≤ w.heap.size + 1; omega) _
      have hN2 : ((wr.drewN nn).setCell ⟨w.heap.size + 1, 1, none⟩ (.int .i64 ((p + 512 : Nat) : Int))).heap[w.heap.size]? = some (.cells #[.int .i64 0, .int .i64 0] 26 (0, 0)) := (Below.heap_setCell _ _ _ _ (by show w.heap.size ≠ w.heap.size + 1; omega)).trans hN
      have HRd := Lib.hid hR2
      have HBd := Lib.hid hB2
      have HNd := Lib.hid hN2
      clear hR2 hB2 hN2 hR hB hN hNT
      have hm2 : ((wr.drewN nn).setCell ⟨w.heap.size + 1, 1, none⟩ (.int .i64 ((p + 512 : Nat) : Int))).cell? ⟨2, 0, none⟩ = some (.int .i64 m) := by
        exact (HBd.out.cell hMB).trans hm
      have HC := Lib.hid (head_any w.heap.size (w.heap.size + 1) s h st p m _ HRd.out hs (by omega) HDS.out hfl hMB hm2)
      clear hm2
      go_wp2_with fail
      refine HC.out.mono ?_
      rintro e w2 ⟨hB3, hK3, hM⟩
      have hB4 := HBd.out.trans hB3
      have hN4 := hK3 _ _ HNd.out
      clear HC hB3 hK3 HRd HBd HNd
      rw [HD.out] at hM
      have HST' := HST.out
      rcases hhd : headM (bl s) (fld (bl s) p 512) p st with ⟨c, a⟩ | ⟨p', st'⟩
      · rw [hhd] at hM HST'
        obtain ⟨rfl, hc⟩ := hM
        have HE := Lib.hid HST'
        clear HST HST' hhd
        have hcb : ((c : Int) != 0) = true := bne_iff_ne.2 (by omega)
        have HC0 := Lib.hid hc
        clear hc
        have gN := Below.heap_alloc w2 (.cells #[.int .i64 c, .int .i64 a] 26) w.heap.size (by have := (Array.getElem?_eq_some_iff.1 hN4).1; omega)
        rw [hN4] at gN
        have hB5 := hB4.alloc hB4.size (.cells #[.int .i64 c, .int .i64 a] 26)
        have hq := heap_alloc_new w2 (.cells #[.int .i64 c, .int .i64 a] 26)
        clear hN4 hB4
        go_upto_region 10 with fail
        have q0 : (w2.alloc (.cells #[.int .i64 c, .int .i64 a] 26)).cell? ⟨w2.heap.size, 0, none⟩ = some (.int .i64 c) := by rw [cell_of_row _ _ _ _ _ _ hq]; rfl
        have q1 : (w2.alloc (.cells #[.int .i64 c, .int .i64 a] 26)).cell? ⟨w2.heap.size, 1, none⟩ = some (.int .i64 a) := by rw [cell_of_row _ _ _ _ _ _ hq]; rfl
        have d0 : (w2.alloc (.cells #[.int .i64 c, .int .i64 a] 26)).cell? ⟨w.heap.size, 0, none⟩ = some (.int .i64 0) := by rw [cell_of_row _ _ _ _ _ _ gN]; rfl
        have d1 : (w2.alloc (.cells #[.int .i64 c, .int .i64 a] 26)).cell? ⟨w.heap.size, 1, none⟩ = some (.int .i64 0) := by rw [cell_of_row _ _ _ _ _ _ gN]; rfl
        have df : ∀ i, (w2.alloc (.cells #[.int .i64 c, .int .i64 a] 26)).frozen? ⟨w.heap.size, i, none⟩ = false := fun i => by simp [World.frozen?, gN]
        revert q0 q1 d0 d1 df hB5
        clear hq gN
        generalize w2.alloc (.cells #[.int .i64 c, .int .i64 a] 26) = w3
        intro hB5 q0 q1 d0 d1 df
        have hBf := ((hB5.drew).setCell (p := ⟨w.heap.size, 0, none⟩) (Nat.le_refl _) (.int .i64 c)).setCell (p := ⟨w.heap.size, 1, none⟩) (Nat.le_refl _) (.int .i64 a)
        have FIN := Lib.hid (ReadR.err (s := s) HE.out HC0.out rfl rfl hBf)
        clear hBf hB5
        go_upto_region 11 with fail
        go_region
        go_wp2_with fail
        refine bodyPost_ret (v := .tuple #[.slice none 0 0, .agg #[.int .i64 c, .int .i64 a]]) (by simp [results, Tryd.results7, go_sem, d0, d1]) rfl ?_
        exact FIN.out
      · rw [hhd] at hM HST'
        obtain ⟨rfl, hR4⟩ := hM
        have HE := Lib.hid HST'
        clear HST HST'
        obtain ⟨hfl', hlt', hle'⟩ := headM_ok hhd hfl (by rw [bl_length]; omega)
        rw [bl_length] at hle'
        have hF := HF.out
        have hG := HG.out
        have hq := heap_alloc_new w2 (.cells #[.int .i64 0, .int .i64 0] 26)
        have q0 : (w2.alloc (.cells #[.int .i64 0, .int .i64 0] 26)).cell? ⟨w2.heap.size, 0, none⟩ = some (.int .i64 0) := by rw [cell_of_row _ _ _ _ _ _ hq]; rfl
        have R := Lib.hid (show ∃ (f q : Nat) (st : StM), s.size - p' = s.size - q ∧ q ≤ s.size ∧ s.size - q ≤ f ∧ st.files.length ≤ 1024 ∧ (Value.slice none 0 0 : Value) = .slice none 0 0 ∧ readM s.size (bl s) 0 st0 = readM f (bl s) q st ∧
            Rd w.heap.size (w.heap.size + 1) s q st (w2.alloc (.cells #[.int .i64 0, .int .i64 0] 26)) ∧ (w2.alloc (.cells #[.int .i64 0, .int .i64 0] 26)).heap[w.heap.size]? = some (.cells #[.int .i64 0, .int .i64 0] 26 (0, 0)) ∧ Below w.heap.size w (w2.alloc (.cells #[.int .i64 0, .int .i64 0] 26)) from
          ⟨f', p', st', rfl, hle', by omega, hfl', rfl, HE.out, hR4.alloc _, (Below.heap_alloc _ _ _ (Array.getElem?_eq_some_iff.1 hN4).1).trans hN4, hB4.alloc hB4.size _⟩)
        clear hhd hR4 hN4 hB4 HE hfl' hq hle' hF
        go_wp2_with fail
        go_roundg (s.size - p')
        case rel =>
          obtain ⟨fe, qe, se, x1, x2, x3, x4, -, x6, x7, x8, x9⟩ := R.out
          exact ⟨fe, qe, se, x1, x2, x3, x4, rfl, x6, x7, x8, x9⟩
        case measure => have := HG.out; omega
end Tp
end Go.Proofs.YtiehjmjobcklmaaDoor
