/- Walks: one head (tape.reader.head). -/
import Derived.Test.YtiehjmjobcklmaaDoorTpA
namespace Go.Proofs.YtiehjmjobcklmaaDoor
open Go.RowKit Go.Shelf Go.Lib
namespace Tp
def kindM (h : Bs) : UInt8 := if h.getD 156 0 = 0 then 48 else h.getD 156 0
def specB (k : UInt8) : Bool := decide (k.toNat = 120) || decide (k.toNat = 103) || decide (k.toNat = 76)
def optNum (o : Option Bs) (d : Nat) (f : Bs → Option Nat) : Option Nat := match o with | none => some d | some t => f t
def sizeM (k : UInt8) (st : StM) (size0 : Nat) : Option Nat := if specB k then some size0 else optNum (overM st.next.size st.all.size) size0 fun t => digits t 12
def timeM (k : UInt8) (st : StM) (time0 : Nat) : Option Nat := if specB k then some time0 else optNum (overM st.next.time st.all.time) time0 fun t => digits (takeTo 46 t) 12
def lenM (k : UInt8) (size : Nat) : Nat := if 49 ≤ k.toNat ∧ k.toNat ≤ 54 then 0 else size
def restM (d h : Bs) (p : Nat) (st : StM) (mode size time : Nat) : Except (Nat × Nat) StM :=
  if specB (kindM h) then specialM st (kindM h).toNat (fld d (p + 512) (lenM (kindM h) size)) p else memberM st (kindM h) mode size time (fld d (p + 512) (lenM (kindM h) size)) h p
def atM (d : Bs) (p len : Nat) : Nat := min (p + 512 + (len + 511) / 512 * 512) d.length
def headM (d h : Bs) (p : Nat) (st : StM) : Except (Nat × Nat) (Nat × StM) :=
  match numbersM h with
  | .error (c, o) => .error (c, p + o)
  | .ok (mode, size0, time0) => match sizeM (kindM h) st size0 with
    | none => .error (14, p + 124)
    | some size => match timeM (kindM h) st time0 with
      | none => .error (14, p + 136)
      | some time =>
        if d.length < p + 512 + lenM (kindM h) size then .error (3, p + 512)
        else match restM d h p st mode size time with
          | .error x => .error x
          | .ok st' => .ok (atM d p (lenM (kindM h) size), st')

def HeadR (B g : Nat) (s : ByteArray) (r : Except (Nat × Nat) (Nat × StM)) (w : World) (e : Ending) (w' : World) : Prop :=
  Below B w w' ∧ KeepF w w' ∧ match r with
    | .error (c, a) => e = .returned (.agg #[.int .i64 c, .int .i64 a]) ∧ c ≠ 0
    | .ok (at', st') => e = .returned (.agg #[.int .i64 0, .int .i64 0]) ∧ Rd B g s at' st' w'
theorem HeadR.err {B g : Nat} {s : ByteArray} {r : Except (Nat × Nat) (Nat × StM)} {w w' : World} {c a : Nat} {x y : Int} (h : r = .error (c, a)) (hc : c ≠ 0) (hx : x = c) (hy : y = a) (hb : Below B w w') (hk : KeepF w w') :
    HeadR B g s r w (.returned (.agg #[.int .i64 x, .int .i64 y])) w' := by subst h; subst hx; subst hy; exact ⟨hb, hk, rfl, hc⟩
theorem HeadR.fine {B g : Nat} {s : ByteArray} {r : Except (Nat × Nat) (Nat × StM)} {w w' : World} {a' : Nat} {st' : StM} (h : r = .ok (a', st')) (hr : Rd B g s a' st' w') (hb : Below B w w') (hk : KeepF w w') :
    HeadR B g s r w (.returned (.agg #[.int .i64 0, .int .i64 0])) w' := by subst h; exact ⟨hb, hk, rfl, hr⟩
theorem Rd.setAt {B g : Nat} {s : ByteArray} {at_ : Nat} {st : StM} {w : World} (h : Rd B g s at_ st w) (a' : Nat) : Rd B g s a' st (w.setCell ⟨g, 1, none⟩ (.int .i64 a')) := by
  obtain ⟨n0, n1, n2, n3, a0, a1, a2, a3, lo, fv, hg, hn, ha, hl, hf, hB⟩ := h
  exact ⟨_, _, _, _, _, _, _, _, _, _, block_set hg 1 _, optT_set hn hg (by decide) (by decide), optT_set ha hg (by decide) (by decide), opt_set hl hg (by decide) (by decide), own_grown hf hg (grown_set _ _ _ _), hB⟩
theorem kind_get {h : ByteArray} (hh : 156 < h.size) : (bl h).getD 156 0 = h[156] := by
  rw [List.getD_eq_getElem?_getD, bl_get hh]; rfl
theorem binLoop_bd : ∀ (l : Bs) (n m : Nat), n ≤ 1099511627776 → binLoop n l = some m → m ≤ 1099511627776
  | [], n, m, h, e => by simp [binLoop] at e; omega
  | c :: l, n, m, h, e => by
    simp only [binLoop] at e
    split at e
    · cases e
    · exact binLoop_bd l _ _ (by omega) e
theorem octLoop_bd : ∀ (l : Bs) (n m : Nat), n ≤ 1099511627776 → octLoop n l = some m → m ≤ 1099511627776
  | [], n, m, h, e => by simp [octLoop] at e; omega
  | c :: l, n, m, h, e => by
    simp only [octLoop] at e
    split at e
    · split at e
      · cases e
      · exact octLoop_bd l _ _ (by omega) e
    · split at e
      · injection e with e; omega
      · cases e
theorem number_bd {l : Bs} {m : Nat} (e : number l = some m) : m ≤ 1099511627776 := by
  cases l with
  | nil => cases e
  | cons c l =>
    have hc := c.toNat_lt
    simp only [number] at e
    split at e
    · exact binLoop_bd _ _ _ (by omega) e
    · exact octLoop_bd _ _ _ (by omega) e
theorem numbersM_bd {h : Bs} {m s t : Nat} (e : numbersM h = .ok (m, s, t)) : m ≤ 1099511627776 ∧ s ≤ 1099511627776 ∧ t ≤ 1099511627776 := by
  unfold numbersM at e
  rcases h1 : number (fld h 148 8) with _ | a
  · rw [h1] at e; cases e
  rw [h1] at e; simp only at e
  split at e
  · cases e
  rcases h2 : number (fld h 124 12) with _ | b
  · rw [h2] at e; cases e
  rw [h2] at e; simp only at e
  rcases h3 : number (fld h 100 8) with _ | c
  · rw [h3] at e; cases e
  rw [h3] at e; simp only at e
  rcases h4 : number (fld h 136 12) with _ | d
  · rw [h4] at e; cases e
  rw [h4] at e; simp only at e
  injection e with e
  injection e with e1 e2
  injection e2 with e2 e3
  have := number_bd h2; have := number_bd h3; have := number_bd h4
  omega

structure HI (w0 : World) (A1 mode size0 time0 : Nat) (w : World) : Prop where
  bel : Below w0.heap.size w0 w
  nf : w.heap[w0.heap.size]? = some (.cells #[.int .i64 0, .int .i64 0] 26 (0, 0))
  a1 : w.heap[A1]? = some (.cells #[.int .i64 mode, .int .i64 size0, .int .i64 time0] 82 (0, 0))
section
variable {w0 w : World} {A1 mode size0 time0 : Nat}
theorem HI.drewN (h : HI w0 A1 mode size0 time0 w) (n : Nat) : HI w0 A1 mode size0 time0 (w.drewN n) := ⟨below_drewN h.bel n, h.nf, h.a1⟩
theorem HI.m0 (h : HI w0 A1 mode size0 time0 w) : w.cell? ⟨A1, 0, none⟩ = some (.int .i64 mode) := by rw [cell_of_row _ _ _ _ _ _ h.a1]; rfl
theorem HI.m1 (h : HI w0 A1 mode size0 time0 w) : w.cell? ⟨A1, 1, none⟩ = some (.int .i64 size0) := by rw [cell_of_row _ _ _ _ _ _ h.a1]; rfl
theorem HI.m2 (h : HI w0 A1 mode size0 time0 w) : w.cell? ⟨A1, 2, none⟩ = some (.int .i64 time0) := by rw [cell_of_row _ _ _ _ _ _ h.a1]; rfl
theorem HI.d0 (h : HI w0 A1 mode size0 time0 w) : w.cell? ⟨w0.heap.size, 0, none⟩ = some (.int .i64 0) := by rw [cell_of_row _ _ _ _ _ _ h.nf]; rfl
theorem HI.d1 (h : HI w0 A1 mode size0 time0 w) : w.cell? ⟨w0.heap.size, 1, none⟩ = some (.int .i64 0) := by rw [cell_of_row _ _ _ _ _ _ h.nf]; rfl
theorem HI.df (h : HI w0 A1 mode size0 time0 w) (i : Nat) : w.frozen? ⟨w0.heap.size, i, none⟩ = false := by simp [World.frozen?, h.nf]
theorem HI.lt (h : HI w0 A1 mode size0 time0 w) : w0.heap.size < w.heap.size := (Array.getElem?_eq_some_iff.1 h.nf).1
end

set_option maxRecDepth 100000 in
set_option maxHeartbeats 4000000 in
theorem head_any (B g : Nat) (s h : ByteArray) (st : StM) (p : Nat) (m : Int) (w : World) (hR : Rd B g s (p + 512) st w) (hs : s.size ≤ 16777216) (hp : p + 512 ≤ s.size) (hh : h.size = 512)
    (hfl : st.files.length ≤ 1024) (hmB : 2 < B) (hm : w.cell? ⟨2, 0, none⟩ = some (.int .i64 m)) :
    Calls Tryd.prog 13 #[.pointer (some ⟨g, 0, none⟩), .string h, .int .i64 p] w (HeadR B g s (headM (bl s) (bl h) p st) w) := by
  have hgl := hR.lt
  have hBg : B ≤ g := by obtain ⟨n0, n1, n2, n3, a0, a1, a2, a3, lo, fv, hb, hn, ha, hl, hf, hB⟩ := hR; exact hB
  have hMB : 2 < w.heap.size := by omega
  have hh1 : h.size ≤ 512 := by omega
  have hh2 : 512 ≤ h.size := by omega
  have HR := Lib.hid hR
  obtain ⟨n0, n1, n2, n3, a0, a1, a2, a3, lo, fv, hb, hn, ha, hl, hf, hB⟩ := hR
  have hRC : ∀ i v, (rdArr s (p + 512) n0 n1 n2 n3 a0 a1 a2 a3 lo fv)[i]? = some v → w.cell? ⟨g, i, none⟩ = some v := fun i v hv => by rw [cell_of_row _ _ _ _ _ _ hb]; exact hv
  have HRC := Lib.hid hRC
  have HB := Lib.hid hb
  have HN := Lib.hid hn
  have HA := Lib.hid ha
  clear hRC hb hn ha hl hf
  have C := Lib.hid (numbers_any h p (w.alloc (.cells #[.int .i64 0, .int .i64 0] 26)) hh (by omega))
  clear hh
  go_enter Tryd.func13, Tryd.ntmps13
  go_wp2_with fail
  refine C.out.mono ?_
  rintro e w1 ⟨x, y, z, c, a, rfl, hb1, hM⟩
  have hN1 := fault_cells hb1 (by simp)
  have hB1 : Below w.heap.size w w1 := ((Below.refl _ w).alloc (Nat.le_refl _) _).trans (hb1.mono (by simp))
  have hs1 : w.heap.size < w1.heap.size := by have := hb1.size; simp at this; omega
  have HM := Lib.hid hM
  clear hM C hb1
  rcases hnum : numbersM (bl h) with ⟨code, off⟩ | ⟨mode, size0, time0⟩
  · have HM' := HM
    rw [hnum] at HM'
    obtain ⟨hc, ha', hc0⟩ := HM'.out
    have HE := Lib.hid (show headM (bl s) (bl h) p st = .error (code, p + off) by unfold headM; rw [hnum])
    have hcb : (c != 0) = true := bne_iff_ne.2 hc0
    have HC := Lib.hid hc
    have HA' := Lib.hid ha'
    have HC0 := Lib.hid hc0
    clear hc ha' hc0 HM HM' hnum
    have d0 : w1.cell? ⟨w.heap.size, 0, none⟩ = some (.int .i64 0) := by rw [cell_of_row _ _ _ _ _ _ hN1]; rfl
    have d1 : w1.cell? ⟨w.heap.size, 1, none⟩ = some (.int .i64 0) := by rw [cell_of_row _ _ _ _ _ _ hN1]; rfl
    have df : ∀ i, w1.frozen? ⟨w.heap.size, i, none⟩ = false := fun i => by simp [World.frozen?, hN1]
    clear hN1
    go_wp2_with fail
    refine bodyPost_ret (v := .agg #[.int .i64 c, .int .i64 a]) (by simp [results, Tryd.results13, go_sem, hs1, d0, d1]) rfl ?_
    have hBf := (((hB1.setCell (p := ⟨w.heap.size, 0, none⟩) (Nat.le_refl _) (.int .i64 c)).setCell (p := ⟨w.heap.size, 1, none⟩) (Nat.le_refl _) (.int .i64 a)).alloc (by simp; omega) (.cells #[.int .i64 x, .int .i64 y, .int .i64 z] 82)).alloc (by simp; omega) (.cells #[.int .i64 c, .int .i64 a] 26)
    exact HeadR.err HE.out (by have := HC.out; have := HC0.out; omega) HC.out HA'.out (hBf.mono (by omega)) (KeepF.below hBf)
  · have HM' := HM
    rw [hnum] at HM'
    obtain ⟨rfl, rfl, rfl, rfl, rfl⟩ := HM'.out
    obtain ⟨hb1, hb2, hb3⟩ := numbersM_bd hnum
    have hk156 := kind_get (h := h) (by omega)
    have HNUM := Lib.hid hnum
    clear hnum HM HM'
    go_upto_if 37 with fail
    have hW : Below w.heap.size w ((w1.alloc (.cells #[.int .i64 mode, .int .i64 size0, .int .i64 time0] 82)).alloc (.cells #[.int .i64 0, .int .i64 0] 26)) := (hB1.alloc (by omega) _).alloc (by simp; omega) _
    have hN2 : ((w1.alloc (.cells #[.int .i64 mode, .int .i64 size0, .int .i64 time0] 82)).alloc (.cells #[.int .i64 0, .int .i64 0] 26)).heap[w.heap.size]? = _ :=
      (Below.heap_alloc _ _ _ (by simp; omega)).trans ((Below.heap_alloc _ _ _ hs1).trans hN1)
    have hA1 : ((w1.alloc (.cells #[.int .i64 mode, .int .i64 size0, .int .i64 time0] 82)).alloc (.cells #[.int .i64 0, .int .i64 0] 26)).heap[w1.heap.size]? = some (.cells #[.int .i64 mode, .int .i64 size0, .int .i64 time0] 82 (0, 0)) :=
      (Below.heap_alloc _ _ _ (by simp)).trans (heap_alloc_new _ _)
    revert hW hN2 hA1
    generalize ((w1.alloc (.cells #[.int .i64 mode, .int .i64 size0, .int .i64 time0] 82)).alloc (.cells #[.int .i64 0, .int .i64 0] 26)) = w2
    intro hW hN2 hA1
    generalize w1.heap.size = A1 at hs1 hA1 ⊢
    clear hB1 hN1
    have hI : HI w A1 mode size0 time0 w2 := ⟨hW, hN2, hA1⟩
    have HW := Lib.hid hW
    clear hW hA1 hN2
    have m0 := hI.m0
    have m1 := hI.m1
    have m2 := hI.m2
    have d0 := hI.d0
    have d1 := hI.d1
    have df := hI.df
    have q0 : w2.cell? ⟨g, 0, none⟩ = some (.string s) := (hI.bel.cell hgl).trans (HRC.out 0 _ rfl)
    have q1 : w2.cell? ⟨g, 1, none⟩ = some (.int .i64 ((p : Int) + 512)) := (hI.bel.cell hgl).trans (HRC.out 1 _ rfl)
    have q4 : w2.cell? ⟨g, 4, none⟩ = some (n2) := (hI.bel.cell hgl).trans (HRC.out 4 _ rfl)
    have q5 : w2.cell? ⟨g, 5, none⟩ = some (n3) := (hI.bel.cell hgl).trans (HRC.out 5 _ rfl)
    have q8 : w2.cell? ⟨g, 8, none⟩ = some (a2) := (hI.bel.cell hgl).trans (HRC.out 8 _ rfl)
    have q9 : w2.cell? ⟨g, 9, none⟩ = some (a3) := (hI.bel.cell hgl).trans (HRC.out 9 _ rfl)
    have hwN := hI.lt
    have hBw : Below B w w2 := hI.bel.mono (by omega)
    have HII := Lib.hid hI
    clear hI
    obtain ⟨kind, hkind⟩ : ∃ k, k = kindM (bl h) := ⟨_, rfl⟩
    have HKD := Lib.hid hkind
    go_cut [9] (fun k wx => k = .int .u8 kind.toNat ∧ w2 = wx)
    case first => as_aux_lemma =>
      have hk2 : kind = (if h[156] = 0 then (48 : UInt8) else h[156]) := by rw [hkind, kindM, hk156]
      clear hkind hk156
      by_cases h0 : h[156] = 0
      · rw [if_pos h0] at hk2
        have h0b : ((h[156].toNat : Int) == 0) = true := by rw [h0]; rfl
        have HK2 := Lib.hid hk2; clear hk2 h0
        go_wp2_with fail
        go_meet
        exact ⟨by rw [HK2.out]; rfl, rfl⟩
      · rw [if_neg h0] at hk2
        have h0b : ((h[156].toNat : Int) == 0) = false := beq_eq_false_iff_ne.2 fun e => h0 (byte_eq (d := 0) e)
        have HK2 := Lib.hid hk2; clear hk2 h0
        go_wp2_with fail
        go_meet
        exact ⟨by rw [HK2.out], rfl⟩
    case rest =>
    obtain ⟨rfl, rfl⟩ := hcut
    clear hkind hk156
    have hkb : kind.toNat < 256 := kind.toNat_lt
    go_upto_region 7 with fail
    obtain ⟨sp, hsp⟩ : ∃ b, b = specB kind := ⟨_, rfl⟩
    have HSP := Lib.hid hsp
    clear hsp
    go_cut [10] (fun c wx => c = .bool sp ∧ w2 = wx)
    case first => as_aux_lemma =>
      by_cases h1 : kind.toNat = 120
      · have e1 : ((kind.toNat : Int) == 120) = true := beq_iff_eq.2 (by omega)
        have HS := Lib.hid (show specB kind = true by simp [specB, h1])
        clear h1
        go_wp2_with fail
        go_meet
        exact ⟨by rw [HSP.out, HS.out], rfl⟩
      have e1 : ((kind.toNat : Int) == 120) = false := beq_eq_false_iff_ne.2 (by omega)
      by_cases h2 : kind.toNat = 103
      · have e2 : ((kind.toNat : Int) == 103) = true := beq_iff_eq.2 (by omega)
        have HS := Lib.hid (show specB kind = true by simp [specB, h2])
        clear h1 h2
        go_wp2_with fail
        go_meet
        exact ⟨by rw [HSP.out, HS.out], rfl⟩
      have e2 : ((kind.toNat : Int) == 103) = false := beq_eq_false_iff_ne.2 (by omega)
      by_cases h3 : kind.toNat = 76
      · have e3 : ((kind.toNat : Int) == 76) = true := beq_iff_eq.2 (by omega)
        have HS := Lib.hid (show specB kind = true by simp [specB, h3])
        clear h1 h2 h3
        go_wp2_with fail
        go_meet
        exact ⟨by rw [HSP.out, HS.out], rfl⟩
      · have e3 : ((kind.toNat : Int) == 76) = false := beq_eq_false_iff_ne.2 (by omega)
        have HS := Lib.hid (show specB kind = false by simp [specB, h1, h2, h3])
        clear h1 h2 h3
        go_wp2_with fail
        go_meet
        exact ⟨by rw [HSP.out, HS.out], rfl⟩
    case rest =>
    obtain ⟨rfl, rfl⟩ := hcut
    go_upto_region 9 with fail
    obtain ⟨v1, hv1, C1⟩ := over_val HN.out.size HA.out.size
    have HC1 := Lib.hid C1
    have HV1 := Lib.hid hv1
    clear C1 hv1
    go_quiet ((exact Calls.quiet_of_same (HC1.out _)))
    go_upto_region 10 with fail
    have hI := HII.out.drewN nq
    clear m0 m1 m2 d0 d1 df q0 q1 q4 q5 q8 q9 hwN hBw HII HW
    generalize w2.drewN nq = w3 at hI ⊢
    have m0 := hI.m0
    have m1 := hI.m1
    have m2 := hI.m2
    have d0 := hI.d0
    have d1 := hI.d1
    have df := hI.df
    have q0 : w3.cell? ⟨g, 0, none⟩ = some (.string s) := (hI.bel.cell hgl).trans (HRC.out 0 _ rfl)
    have q1 : w3.cell? ⟨g, 1, none⟩ = some (.int .i64 ((p : Int) + 512)) := (hI.bel.cell hgl).trans (HRC.out 1 _ rfl)
    have q4 : w3.cell? ⟨g, 4, none⟩ = some (n2) := (hI.bel.cell hgl).trans (HRC.out 4 _ rfl)
    have q5 : w3.cell? ⟨g, 5, none⟩ = some (n3) := (hI.bel.cell hgl).trans (HRC.out 5 _ rfl)
    have q8 : w3.cell? ⟨g, 8, none⟩ = some (a2) := (hI.bel.cell hgl).trans (HRC.out 8 _ rfl)
    have q9 : w3.cell? ⟨g, 9, none⟩ = some (a3) := (hI.bel.cell hgl).trans (HRC.out 9 _ rfl)
    have hwN := hI.lt
    have hBw : Below B w w3 := hI.bel.mono (by omega)
    have HII := Lib.hid hI
    clear hI
    obtain ⟨o1, ho1⟩ : ∃ o, o = overM st.next.size st.all.size := ⟨_, rfl⟩
    have hov : (o1 = none ∧ v1 = .slice none 0 0) ∨ (∃ (b off : Nat) (r : ByteArray), o1 = some (bl r) ∧ v1 = .slice (some ⟨b, off, none⟩) 1 1 ∧ w3.cell? ⟨b, off, none⟩ = some (.string r) ∧ r.size ≤ 16777216) := by
      rcases HV1.out.form with h | ⟨b, off, r, h1, h2, h3, h4⟩
      · exact .inl (by rw [ho1]; exact h)
      · exact .inr ⟨b, off, r, by rw [ho1]; exact h1, h2, (HII.out.bel.cell (World.block_lt_of_cell? _ _ h3)).trans h3, h4⟩
    have HOV := Lib.hid hov
    have HO1 := Lib.hid ho1
    have HSM := Lib.hid (show sizeM kind st size0 = (if sp = true then some size0 else optNum o1 size0 fun t => digits t 12) by unfold sizeM; rw [HSP.out, ho1])
    clear hov ho1
    obtain ⟨u, hu⟩ : ∃ u, u = (!sp && o1.isSome) := ⟨_, rfl⟩
    have HU := Lib.hid hu
    clear hu
    go_cut [67] (fun c wx => c = .bool u ∧ w3 = wx)
    case first => as_aux_lemma =>
      rcases sp with _ | _
      · rcases HOV.out with ⟨rfl, rfl⟩ | ⟨b, off, r, rfl, rfl, hc, _⟩
        · go_wp2_with fail
          go_meet
          exact ⟨by rw [HU.out]; rfl, rfl⟩
        · clear hc
          go_wp2_with fail
          go_meet
          exact ⟨by rw [HU.out]; rfl, rfl⟩
      · go_wp2_with fail
        go_meet
        exact ⟨by rw [HU.out]; rfl, rfl⟩
    case rest =>
    obtain ⟨rfl, rfl⟩ := hcut
    go_upto_if 67 with fail
    go_cut [11] (fun v wx => ∃ size : Nat, sizeM kind st size0 = some size ∧ size ≤ 10000000000000 ∧ v = .int .i64 size ∧ w3 = wx)
    case first => as_aux_lemma =>
      rcases u with _ | _
      · have HS := Lib.hid (HSM.out.trans (show _ = some size0 by
          have h := HU.out
          rcases sp with _ | _
          · rcases o1 with _ | x
            · rfl
            · simp at h
          · rfl))
        go_wp2_with fail
        go_meet
        exact ⟨size0, HS.out, by omega, rfl, rfl⟩
      · have hsp : sp = false := by have h := HU.out; simp at h; exact h.1
        have ho : ∃ x, o1 = some x := by have h := HU.out; simp at h; exact Option.isSome_iff_exists.1 h.2
        obtain ⟨xx, hxx⟩ := ho
        rcases HOV.out with ⟨h1, _⟩ | ⟨b, off, r, h1, rfl, hc, hr12⟩
        · rw [h1] at hxx; cases hxx
        have HS := Lib.hid (HSM.out.trans (show _ = digits (bl r) 12 by rw [hsp, h1]; rfl))
        clear hsp hxx h1
        rcases hd : digits (bl r) 12 with _ | n
        · have HE := Lib.hid (show headM (bl s) (bl h) p st = .error (14, p + 124) by unfold headM; rw [HNUM.out]; simp only; rw [← HKD.out, HS.out, hd])
          have C := Lib.hid (fun W => decimal_none hd W hr12 (by omega))
          clear hd
          go_wp2_with fail
          refine (C.out _).mono ?_
          rintro e w' ⟨rfl, rfl⟩
          go_wp2_with fail
          refine (size_any _).mono ?_
          rintro e w4 ⟨rfl, hb3⟩
          have hN3 : w4.heap[w.heap.size]? = _ := (hb3.block _ hwN).trans HII.out.nf
          have k0 : w4.cell? ⟨w.heap.size, 0, none⟩ = some (.int .i64 0) := by rw [cell_of_row _ _ _ _ _ _ hN3]; rfl
          have k1 : w4.cell? ⟨w.heap.size, 1, none⟩ = some (.int .i64 0) := by rw [cell_of_row _ _ _ _ _ _ hN3]; rfl
          have kf : ∀ i, w4.frozen? ⟨w.heap.size, i, none⟩ = false := fun i => by simp [World.frozen?, hN3]
          have hB3 := HII.out.bel.trans (hb3.mono (by omega))
          have hfl : ∀ W, (Instr.field 87 (.agg #[.int .i64 124, .int .i64 12]) 0).run Tryd.prog W = .ok (.int .i64 124) W := fun _ => by kernel_rfl
          clear hN3 hb3
          go_wp2_with fail
          refine bodyPost_ret (v := .agg #[.int .i64 14, .int .i64 ((p : Int) + 124)]) (by simp [results, Tryd.results13, go_sem, k0, k1]) rfl ?_
          have hBf := (hB3.setCell (p := ⟨w.heap.size, 0, none⟩) (Nat.le_refl _) (.int .i64 14)).setCell (p := ⟨w.heap.size, 1, none⟩) (Nat.le_refl _) (.int .i64 ((p : Int) + 124))
          exact HeadR.err HE.out (by decide) rfl rfl (hBf.mono (by omega)) (KeepF.below hBf)
        · have hn := (digits_bd hd).2.2
          have hn' : n < 1000000000000 := Nat.lt_of_lt_of_le hn (by decide)
          have HS := Lib.hid (HS.out.trans hd)
          have C := Lib.hid (fun W => decimal_some hd W hr12 (by omega))
          clear hd hn
          go_wp2_with fail
          refine (C.out _).mono ?_
          rintro e w' ⟨rfl, rfl⟩
          go_wp2_with fail
          go_meet
          exact ⟨n, HS.out, by omega, rfl, rfl⟩
    case rest =>
    obtain ⟨size, hsize, hszb, rfl, rfl⟩ := hcut
    have HSZ := Lib.hid hsize
    clear hsize
    clear HU HOV HO1 HSM
    go_upto_region 16 with fail
    obtain ⟨v2, hv2, C2⟩ := over_val HN.out.time HA.out.time
    have HC2 := Lib.hid C2
    have HV2 := Lib.hid hv2
    clear C2 hv2 HC1
    have hmq : w3.cell? ⟨2, 0, none⟩ = some (.int .i64 m) := (HII.out.bel.cell hMB).trans hm
    go_quiet ((exact Calls.quiet_of_same (HC2.out _)))
    go_upto_region 17 with fail
    have hI := HII.out.drewN nq
    clear m0 m1 m2 d0 d1 df q0 q1 q4 q5 q8 q9 hwN hBw HII hmq
    generalize w3.drewN nq = w5 at hI ⊢
    have hmq : w5.cell? ⟨2, 0, none⟩ = some (.int .i64 m) := (hI.bel.cell hMB).trans hm
    have m0 := hI.m0
    have m1 := hI.m1
    have m2 := hI.m2
    have d0 := hI.d0
    have d1 := hI.d1
    have df := hI.df
    have q0 : w5.cell? ⟨g, 0, none⟩ = some (.string s) := (hI.bel.cell hgl).trans (HRC.out 0 _ rfl)
    have q1 : w5.cell? ⟨g, 1, none⟩ = some (.int .i64 ((p : Int) + 512)) := (hI.bel.cell hgl).trans (HRC.out 1 _ rfl)
    have hwN := hI.lt
    have hBw : Below B w w5 := hI.bel.mono (by omega)
    have HII := Lib.hid hI
    clear hI
    obtain ⟨o2, ho2⟩ : ∃ o, o = overM st.next.time st.all.time := ⟨_, rfl⟩
    have hov : (o2 = none ∧ v2 = .slice none 0 0) ∨ (∃ (b off : Nat) (r : ByteArray), o2 = some (bl r) ∧ v2 = .slice (some ⟨b, off, none⟩) 1 1 ∧ w5.cell? ⟨b, off, none⟩ = some (.string r) ∧ r.size ≤ 16777216) := by
      rcases HV2.out.form with h | ⟨b, off, r, h1, h2, h3, h4⟩
      · exact .inl (by rw [ho2]; exact h)
      · exact .inr ⟨b, off, r, by rw [ho2]; exact h1, h2, (HII.out.bel.cell (World.block_lt_of_cell? _ _ h3)).trans h3, h4⟩
    have HOV := Lib.hid hov
    have HTM := Lib.hid (show timeM kind st time0 = (if sp = true then some time0 else optNum o2 time0 fun t => digits (takeTo 46 t) 12) by unfold timeM; rw [HSP.out, ho2])
    clear hov ho2
    obtain ⟨u, hu⟩ : ∃ u, u = (!sp && o2.isSome) := ⟨_, rfl⟩
    have HU := Lib.hid hu
    clear hu
    go_cut [102] (fun c wx => c = .bool u ∧ w5 = wx)
    case first => as_aux_lemma =>
      rcases sp with _ | _
      · rcases HOV.out with ⟨rfl, rfl⟩ | ⟨b, off, r, rfl, rfl, hc, _⟩
        · go_wp2_with fail
          go_meet
          exact ⟨by rw [HU.out]; rfl, rfl⟩
        · clear hc
          go_wp2_with fail
          go_meet
          exact ⟨by rw [HU.out]; rfl, rfl⟩
      · go_wp2_with fail
        go_meet
        exact ⟨by rw [HU.out]; rfl, rfl⟩
    case rest =>
    obtain ⟨rfl, rfl⟩ := hcut
    go_upto_if 102 with fail
    go_cut [15] (fun v wx => ∃ time : Nat, timeM kind st time0 = some time ∧ time ≤ 10000000000000 ∧ v = .int .i64 time ∧ HI w A1 mode size0 time0 wx)
    case first => as_aux_lemma =>
      rcases u with _ | _
      · have HS := Lib.hid (HTM.out.trans (show _ = some time0 by
          have h := HU.out
          rcases sp with _ | _
          · rcases o2 with _ | x
            · rfl
            · simp at h
          · rfl))
        go_wp2_with fail
        go_meet
        exact ⟨time0, HS.out, by omega, rfl, HII.out⟩
      · have hsp : sp = false := by have h := HU.out; simp at h; exact h.1
        have ho : ∃ x, o2 = some x := by have h := HU.out; simp at h; exact Option.isSome_iff_exists.1 h.2
        obtain ⟨xx, hxx⟩ := ho
        rcases HOV.out with ⟨h1, _⟩ | ⟨b, off, r, h1, rfl, hc, hr12⟩
        · rw [h1] at hxx; cases hxx
        have HS := Lib.hid (HTM.out.trans (show _ = digits (takeTo 46 (bl r)) 12 by rw [hsp, h1]; rfl))
        clear hsp hxx h1
        go_wp2_with fail
        refine (cut_any r 46 m _ hr12 hmq).mono ?_
        rintro e w' ⟨x, y, rfl, hx, hy, hxs, n1', rfl⟩
        have HS := Lib.hid (HS.out.trans (by rw [← hx]) : timeM kind st time0 = digits (bl x) 12)
        have hx12 : x.size ≤ 16777216 := by omega
        clear hx hy
        rcases hd : digits (bl x) 12 with _ | n
        · have HE := Lib.hid (show headM (bl s) (bl h) p st = .error (14, p + 136) by unfold headM; rw [HNUM.out]; simp only; rw [← HKD.out, HSZ.out]; simp only; rw [HS.out, hd])
          have C := Lib.hid (fun W => decimal_none hd W hx12 (by omega))
          clear hd
          go_wp2_with fail
          refine (C.out _).mono ?_
          rintro e w' ⟨rfl, rfl⟩
          go_wp2_with fail
          refine (time_any _).mono ?_
          rintro e w4 ⟨rfl, hb3⟩
          have hN3 : w4.heap[w.heap.size]? = _ := (hb3.block _ hwN).trans HII.out.nf
          have k0 : w4.cell? ⟨w.heap.size, 0, none⟩ = some (.int .i64 0) := by rw [cell_of_row _ _ _ _ _ _ hN3]; rfl
          have k1 : w4.cell? ⟨w.heap.size, 1, none⟩ = some (.int .i64 0) := by rw [cell_of_row _ _ _ _ _ _ hN3]; rfl
          have kf : ∀ i, w4.frozen? ⟨w.heap.size, i, none⟩ = false := fun i => by simp [World.frozen?, hN3]
          have hB3 := (below_drewN HII.out.bel n1').trans (hb3.mono (by show w.heap.size ≤ w5.heap.size; omega))
          have hfl : ∀ W, (Instr.field 87 (.agg #[.int .i64 136, .int .i64 12]) 0).run Tryd.prog W = .ok (.int .i64 136) W := fun _ => by kernel_rfl
          clear hN3 hb3
          go_wp2_with fail
          refine bodyPost_ret (v := .agg #[.int .i64 14, .int .i64 ((p : Int) + 136)]) (by simp [results, Tryd.results13, go_sem, k0, k1]) rfl ?_
          have hBf := (hB3.setCell (p := ⟨w.heap.size, 0, none⟩) (Nat.le_refl _) (.int .i64 14)).setCell (p := ⟨w.heap.size, 1, none⟩) (Nat.le_refl _) (.int .i64 ((p : Int) + 136))
          exact HeadR.err HE.out (by decide) rfl rfl (hBf.mono (by omega)) (KeepF.below hBf)
        · have hn := (digits_bd hd).2.2
          have hn' : n < 1000000000000 := Nat.lt_of_lt_of_le hn (by decide)
          have HS := Lib.hid (HS.out.trans hd)
          have C := Lib.hid (fun W => decimal_some hd W hx12 (by omega))
          clear hd hn
          go_wp2_with fail
          refine (C.out _).mono ?_
          rintro e w' ⟨rfl, rfl⟩
          go_wp2_with fail
          go_meet
          exact ⟨n, HS.out, by omega, rfl, HII.out.drewN n1'⟩
    case rest =>
    obtain ⟨time, htime, htmb, rfl, hI⟩ := hcut
    have HTZ := Lib.hid htime
    clear htime HU HOV HTM HC2 m0 m1 m2 d0 d1 df q0 q1 hwN hBw HII hmq
    have m0 := hI.m0
    have m1 := hI.m1
    have m2 := hI.m2
    have d0 := hI.d0
    have d1 := hI.d1
    have df := hI.df
    have q0 : wc.cell? ⟨g, 0, none⟩ = some (.string s) := (hI.bel.cell hgl).trans (HRC.out 0 _ rfl)
    have q1 : wc.cell? ⟨g, 1, none⟩ = some (.int .i64 ((p : Int) + 512)) := (hI.bel.cell hgl).trans (HRC.out 1 _ rfl)
    have hwN := hI.lt
    have hBw : Below B w wc := hI.bel.mono (by omega)
    have HII := Lib.hid hI
    clear hI
    obtain ⟨len, hlen⟩ : ∃ l, l = lenM kind size := ⟨_, rfl⟩
    have hlb : len ≤ 10000000000000 := by rw [hlen]; unfold lenM; split <;> omega
    have HL := Lib.hid hlen
    clear hlen
    obtain ⟨lo6, hlo6⟩ : ∃ b, b = decide (49 ≤ kind.toNat ∧ kind.toNat ≤ 54) := ⟨_, rfl⟩
    have HLO := Lib.hid hlo6
    clear hlo6
    go_upto_region 24 with fail
    go_cut [130] (fun c wx => c = .bool lo6 ∧ wc = wx)
    case first => as_aux_lemma =>
      by_cases h1 : 49 ≤ kind.toNat
      · by_cases h2 : kind.toNat ≤ 54
        · have h1' : (49 : Int) ≤ (kind.toNat : Int) := by omega
          have h2' : (kind.toNat : Int) ≤ 54 := by omega
          have HX := Lib.hid (HLO.out.trans (decide_eq_true ⟨h1, h2⟩))
          clear h1 h2
          go_wp2_with fail
          go_meet
          exact ⟨by rw [HX.out] <;> first | rfl | (simp; done) | (simp; omega), rfl⟩
        · have h1' : (49 : Int) ≤ (kind.toNat : Int) := by omega
          have h2' : (54 : Int) < (kind.toNat : Int) := by omega
          have HX := Lib.hid (HLO.out.trans (decide_eq_false (fun h => h2 h.2)))
          clear h1 h2
          go_wp2_with fail
          go_meet
          exact ⟨by rw [HX.out] <;> first | rfl | (simp; done) | (simp; omega), rfl⟩
      · have h1' : (kind.toNat : Int) < 49 := by omega
        have HX := Lib.hid (HLO.out.trans (decide_eq_false (fun h => h1 h.1)))
        clear h1
        go_wp2_with fail
        go_meet
        exact ⟨by rw [HX.out], rfl⟩
    case rest =>
    obtain ⟨rfl, rfl⟩ := hcut
    go_upto_if 130 with fail
    go_cut [22] (fun c wx => c = .int .i64 len ∧ wc = wx)
    case first => as_aux_lemma =>
      rcases lo6 with _ | _
      · have HX := Lib.hid (show len = size by rw [HL.out, lenM, if_neg (of_decide_eq_false HLO.out.symm)])
        go_wp2_with fail
        go_meet
        exact ⟨by rw [HX.out], rfl⟩
      · have HX := Lib.hid (show len = 0 by rw [HL.out, lenM, if_pos (of_decide_eq_true HLO.out.symm)])
        go_wp2_with fail
        go_meet
        exact ⟨by rw [HX.out]; rfl, rfl⟩
    case rest =>
    obtain ⟨rfl, rfl⟩ := hcut
    go_upto_region 26 with fail
    have hw1 : IntKind.i64.wrap ((s.size : Int) - ((p : Int) + 512)) = (s.size : Int) - ((p : Int) + 512) := IntWalk.i64_in _ (by omega)
    by_cases hfit : s.size < p + 512 + len
    · have hfb : decide ((s.size : Int) - ((p : Int) + 512) < (len : Int)) = true := decide_eq_true (by omega)
      have HE := Lib.hid (show headM (bl s) (bl h) p st = .error (3, p + 512) by unfold headM; rw [HNUM.out]; simp only; rw [← HKD.out, HSZ.out]; simp only; rw [HTZ.out]; simp only; rw [← HL.out, bl_length, if_pos hfit])
      clear hfit
      go_quiet (fail)
      go_wp2_with fail
      refine bodyPost_ret (v := .agg #[.int .i64 3, .int .i64 ((p : Int) + 512)]) (by simp [results, Tryd.results13, go_sem, d0, d1]) rfl ?_
      have hBf := ((below_drewN HII.out.bel nq).setCell (p := ⟨w.heap.size, 0, none⟩) (Nat.le_refl _) (.int .i64 3)).setCell (p := ⟨w.heap.size, 1, none⟩) (Nat.le_refl _) (.int .i64 ((p : Int) + 512))
      exact HeadR.err HE.out (by decide) rfl (by simp) (hBf.mono (by omega)) (KeepF.below hBf)
    · have hfb : decide ((s.size : Int) - ((p : Int) + 512) < (len : Int)) = false := decide_eq_false (by omega)
      have hle : p + 512 + len ≤ s.size := by omega
      have HFIT := Lib.hid hfit
      clear hfit
      go_quiet (fail)
      go_upto_region 28 with fail
      have hI := HII.out.drewN nq
      clear m0 m1 m2 d0 d1 df q0 q1 hwN hBw HII
      generalize wc.drewN nq = wz at hI ⊢
      have m0 := hI.m0
      have m1 := hI.m1
      have m2 := hI.m2
      have d0 := hI.d0
      have d1 := hI.d1
      have df := hI.df
      have q0 : wz.cell? ⟨g, 0, none⟩ = some (.string s) := (hI.bel.cell hgl).trans (HRC.out 0 _ rfl)
      have q1 : wz.cell? ⟨g, 1, none⟩ = some (.int .i64 ((p : Int) + 512)) := (hI.bel.cell hgl).trans (HRC.out 1 _ rfl)
      have hwN := hI.lt
      have hBw : Below B w wz := hI.bel.mono (by omega)
      have HII := Lib.hid hI
      clear hI
      have hw2 : IntKind.i64.wrap ((p : Int) + 512 + (len : Int)) = (p : Int) + 512 + (len : Int) := IntWalk.i64_in _ (by omega)
      have hw3 : (0 : Int) ≤ (p : Int) + 512 := by omega
      have hw4 : (p : Int) + 512 ≤ (p : Int) + 512 + (len : Int) := by omega
      have hw5 : (p : Int) + 512 + (len : Int) ≤ (s.size : Int) := by omega
      go_quiet (fail)
      go_upto_region 29 with fail
      have hI := HII.out.drewN nq
      clear m0 m1 m2 d0 d1 df q0 q1 hwN hBw HII
      generalize wz.drewN nq = wy at hI ⊢
      have hD : bl (s.extract (p + 512) (p + 512 + len)) = fld (bl s) (p + 512) len := by
        rw [bl_extract, fld]; congr 1; omega
      have hDs : (s.extract (p + 512) (p + 512 + len)).size ≤ 16777216 := by simp; omega
      revert hD hDs
      generalize s.extract (p + 512) (p + 512 + len) = D
      intro hD hDs
      have HD := Lib.hid hD
      clear hD hw1 hw2 hw3 hw4 hw5
      have m0 := hI.m0
      have m1 := hI.m1
      have m2 := hI.m2
      have d0 := hI.d0
      have d1 := hI.d1
      have df := hI.df
      have q0 : wy.cell? ⟨g, 0, none⟩ = some (.string s) := (hI.bel.cell hgl).trans (HRC.out 0 _ rfl)
      have q1 : wy.cell? ⟨g, 1, none⟩ = some (.int .i64 ((p : Int) + 512)) := (hI.bel.cell hgl).trans (HRC.out 1 _ rfl)
      have hwN := hI.lt
      have hBw : Below B w wy := hI.bel.mono (by omega)
      have q1f : ∀ i, wy.frozen? ⟨g, i, none⟩ = false := fun i => (hI.bel.frozen hgl).trans (by have hb := HB.out; simp [World.frozen?, hb])
      have HII := Lib.hid hI
      clear hI
      have hw1 : IntKind.i64.wrap ((len : Int) + 512) = (len : Int) + 512 := IntWalk.i64_in _ (by omega)
      have hw2 : IntKind.i64.wrap ((len : Int) + 512 - 1) = (len : Int) + 512 - 1 := IntWalk.i64_in _ (by omega)
      have hw3 : 0 ≤ (len : Int) + 512 - 1 := by omega
      go_upto_region 29 with fail
      have hRy := HR.out.kept (grown_below HII.out.bel)
      have hRW := (hRy.setAt (atM (bl s) p len)).drew
      have hNW : (wy.setCell ⟨g, 1, none⟩ (.int .i64 ((atM (bl s) p len : Nat) : Int))).drew.heap[w.heap.size]? = some (.cells #[.int .i64 0, .int .i64 0] 26 (0, 0)) := (Below.heap_setCell _ _ _ _ (by show w.heap.size ≠ g; omega)).trans HII.out.nf
      have hKW := ((KeepF.below HII.out.bel).set hRy.hasT (by decide) 1 (.int .i64 ((atM (bl s) p len : Nat) : Int))).drew
      have hBW := (hBw.setCell (p := ⟨g, 1, none⟩) hBg (.int .i64 ((atM (bl s) p len : Nat) : Int))).drew
      have hmW : (wy.setCell ⟨g, 1, none⟩ (.int .i64 ((atM (bl s) p len : Nat) : Int))).drew.cell? ⟨2, 0, none⟩ = some (.int .i64 m) := (World.cell?_of_block (w := wy) (Below.heap_setCell _ _ _ _ (by show 2 ≠ g; omega))).trans ((HII.out.bel.cell hMB).trans hm)
      have eAt := Lib.hid (show min ((p : Int) + 512 + ((len : Int) + 512 - 1) / 512 * 512) (s.size : Int) = ((atM (bl s) p len : Nat) : Int) by unfold atM; rw [bl_length]; omega)
      have HEAD := Lib.hid (show headM (bl s) (bl h) p st = (match restM (bl s) (bl h) p st mode size time with | .error x => .error x | .ok st' => .ok (atM (bl s) p len, st')) by
        unfold headM; rw [HNUM.out]; simp only; rw [← HKD.out, HSZ.out]; simp only; rw [HTZ.out]; simp only; rw [← HL.out, bl_length, if_neg HFIT.out])
      clear hRy
      go_region
      rcases sp with _ | _
      · have HRM := Lib.hid (show restM (bl s) (bl h) p st mode size time = memberM st kind mode size time (bl D) (bl h) p by
          unfold restM; rw [← HKD.out, ← HSP.out, ← HL.out, HD.out]; rfl)
        go_wp2_with fail
        rw [eAt.out]
        revert hRW hNW hKW hBW hmW
        generalize (wy.setCell ⟨g, 1, none⟩ (.int .i64 ((atM (bl s) p len : Nat) : Int))).drew = W
        intro hRW hNW hKW hBW hmW
        refine (member_any B g s (atM (bl s) p len) st ⟨#[]⟩ ⟨#[]⟩ D h kind mode size time p m _ hRW (by omega) (by omega) hfl hDs hmB hmW).mono ?_
        rintro e w6 ⟨hb6, hk6, hM6⟩
        have hN6 := hk6 _ _ hNW
        have hB6 := hBW.trans hb6
        have hK6 := hKW.trans hk6
        have k0 : w6.cell? ⟨w.heap.size, 0, none⟩ = some (.int .i64 0) := by rw [cell_of_row _ _ _ _ _ _ hN6]; rfl
        have k1 : w6.cell? ⟨w.heap.size, 1, none⟩ = some (.int .i64 0) := by rw [cell_of_row _ _ _ _ _ _ hN6]; rfl
        have kf : ∀ i, w6.frozen? ⟨w.heap.size, i, none⟩ = false := fun i => by simp [World.frozen?, hN6]
        have hT6 : HasT w6 w.heap.size 26 := ⟨_, hN6⟩
        clear hRW hNW hKW hBW hmW hb6 hk6 hN6 m0 m1 m2 d0 d1 df q0 q1 q1f
        rcases hr : memberM st kind mode size time (bl D) (bl h) p with ⟨c, a⟩ | st'
        · rw [hr] at hM6
          obtain ⟨rfl, hc0⟩ := hM6
          have HE := Lib.hid (HEAD.out.trans (by rw [HRM.out, hr]) : headM (bl s) (bl h) p st = .error (c, a))
          have hBf := (hB6.setCell (p := ⟨w.heap.size, 0, none⟩) (by show B ≤ w.heap.size; omega) (.int .i64 c)).setCell (p := ⟨w.heap.size, 1, none⟩) (by show B ≤ w.heap.size; omega) (.int .i64 a)
          have hKf := (hK6.new (Nat.le_refl _) 0 (.int .i64 c)).new (Nat.le_refl _) 1 (.int .i64 a)
          have FIN := Lib.hid (HeadR.err (g := g) (s := s) HE.out hc0 rfl rfl hBf hKf)
          clear hr hc0 hBf hKf hB6 hK6 hT6
          go_wp2_with fail
          refine bodyPost_ret (v := .agg #[.int .i64 c, .int .i64 a]) (by simp [results, Tryd.results13, go_sem, k0, k1]) rfl ?_
          exact FIN.out
        · rw [hr] at hM6
          obtain ⟨rfl, hRd⟩ := hM6
          have HE := Lib.hid (HEAD.out.trans (by rw [HRM.out, hr]) : headM (bl s) (bl h) p st = .ok (atM (bl s) p len, st'))
          have hBf := (hB6.setCell (p := ⟨w.heap.size, 0, none⟩) (by show B ≤ w.heap.size; omega) (.int .i64 0)).setCell (p := ⟨w.heap.size, 1, none⟩) (by show B ≤ w.heap.size; omega) (.int .i64 0)
          have hKf := (hK6.new (Nat.le_refl _) 0 (.int .i64 0)).new (Nat.le_refl _) 1 (.int .i64 0)
          have FIN := Lib.hid (HeadR.fine HE.out (hRd.fault (x := .int .i64 0) (y := .int .i64 0) hT6) hBf hKf)
          clear hr hRd hBf hKf hB6 hK6 hT6
          go_wp2_with fail
          refine bodyPost_ret (v := .agg #[.int .i64 0, .int .i64 0]) (by simp [results, Tryd.results13, go_sem, k0, k1]) rfl ?_
          exact FIN.out
      · have HRM := Lib.hid (show restM (bl s) (bl h) p st mode size time = specialM st kind.toNat (bl D) p by
          unfold restM; rw [← HKD.out, ← HSP.out, ← HL.out, HD.out]; rfl)
        go_wp2_with fail
        rw [eAt.out]
        revert hRW hNW hKW hBW hmW
        generalize (wy.setCell ⟨g, 1, none⟩ (.int .i64 ((atM (bl s) p len : Nat) : Int))).drew = W
        intro hRW hNW hKW hBW hmW
        refine (special_any B g s (atM (bl s) p len) st kind D p m _ hRW (by omega) hDs hmB hmW).mono ?_
        rintro e w6 ⟨hb6, hk6, hM6⟩
        have hN6 := hk6 _ _ hNW
        have hB6 := hBW.trans hb6
        have hK6 := hKW.trans hk6
        have k0 : w6.cell? ⟨w.heap.size, 0, none⟩ = some (.int .i64 0) := by rw [cell_of_row _ _ _ _ _ _ hN6]; rfl
        have k1 : w6.cell? ⟨w.heap.size, 1, none⟩ = some (.int .i64 0) := by rw [cell_of_row _ _ _ _ _ _ hN6]; rfl
        have kf : ∀ i, w6.frozen? ⟨w.heap.size, i, none⟩ = false := fun i => by simp [World.frozen?, hN6]
        have hT6 : HasT w6 w.heap.size 26 := ⟨_, hN6⟩
        clear hRW hNW hKW hBW hmW hb6 hk6 hN6 m0 m1 m2 d0 d1 df q0 q1 q1f
        rcases hr : specialM st kind.toNat (bl D) p with ⟨c, a⟩ | st'
        · rw [hr] at hM6
          obtain ⟨rfl, hc0⟩ := hM6
          have HE := Lib.hid (HEAD.out.trans (by rw [HRM.out, hr]) : headM (bl s) (bl h) p st = .error (c, a))
          have hBf := (hB6.setCell (p := ⟨w.heap.size, 0, none⟩) (by show B ≤ w.heap.size; omega) (.int .i64 c)).setCell (p := ⟨w.heap.size, 1, none⟩) (by show B ≤ w.heap.size; omega) (.int .i64 a)
          have hKf := (hK6.new (Nat.le_refl _) 0 (.int .i64 c)).new (Nat.le_refl _) 1 (.int .i64 a)
          have FIN := Lib.hid (HeadR.err (g := g) (s := s) HE.out hc0 rfl rfl hBf hKf)
          clear hr hc0 hBf hKf hB6 hK6 hT6
          go_wp2_with fail
          refine bodyPost_ret (v := .agg #[.int .i64 c, .int .i64 a]) (by simp [results, Tryd.results13, go_sem, k0, k1]) rfl ?_
          exact FIN.out
        · rw [hr] at hM6
          obtain ⟨rfl, hRd⟩ := hM6
          have HE := Lib.hid (HEAD.out.trans (by rw [HRM.out, hr]) : headM (bl s) (bl h) p st = .ok (atM (bl s) p len, st'))
          have hBf := (hB6.setCell (p := ⟨w.heap.size, 0, none⟩) (by show B ≤ w.heap.size; omega) (.int .i64 0)).setCell (p := ⟨w.heap.size, 1, none⟩) (by show B ≤ w.heap.size; omega) (.int .i64 0)
          have hKf := (hK6.new (Nat.le_refl _) 0 (.int .i64 0)).new (Nat.le_refl _) 1 (.int .i64 0)
          have FIN := Lib.hid (HeadR.fine HE.out (hRd.fault (x := .int .i64 0) (y := .int .i64 0) hT6) hBf hKf)
          clear hr hRd hBf hKf hB6 hK6 hT6
          go_wp2_with fail
          refine bodyPost_ret (v := .agg #[.int .i64 0, .int .i64 0]) (by simp [results, Tryd.results13, go_sem, k0, k1]) rfl ?_
          exact FIN.out
end Tp
end Go.Proofs.YtiehjmjobcklmaaDoor
