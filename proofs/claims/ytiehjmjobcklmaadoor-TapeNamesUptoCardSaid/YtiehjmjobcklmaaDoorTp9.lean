/- Walks: the reader of an archive (tape.reader.special). -/
import Derived.Test.YtiehjmjobcklmaaDoorTp8
namespace Go.Proofs.YtiehjmjobcklmaaDoor
open Go.RowKit Go.Shelf Go.Lib
namespace Tp
structure FileM where
  name : Bs
  link : Bs
  kind : UInt8
  mode : Nat
  size : Nat
  time : Nat
  data : Bs
structure StM where
  next : ToldM
  all : ToldM
  long : Option Bs
  files : List FileM
def noTold : ToldM := ⟨none, none, none, none⟩
def fileCells (f : FileM) : List Value := [str f.name, str f.link, .int .u8 f.kind.toNat, .int .i64 f.mode, .int .i64 f.size, .int .i64 f.time, str f.data]
def filesCells (fs : List FileM) : List Value := fs.flatMap fileCells
theorem filesCells_snoc (fs : List FileM) (f : FileM) : filesCells (fs ++ [f]) = filesCells fs ++ fileCells f := by simp [filesCells]

def rdArr (s : ByteArray) (at_ : Nat) (n0 n1 n2 n3 a0 a1 a2 a3 lo fv : Value) : Array Value := #[.string s, .int .i64 at_, n0, n1, n2, n3, a0, a1, a2, a3, lo, fv]
structure OptT (w : World) (v0 v1 v2 v3 : Value) (t : ToldM) : Prop where
  path : Opt w v0 t.path
  link : Opt w v1 t.link
  size : Opt w v2 t.size
  time : Opt w v3 t.time
def Rd (B g : Nat) (s : ByteArray) (at_ : Nat) (st : StM) (w : World) : Prop :=
  ∃ n0 n1 n2 n3 a0 a1 a2 a3 lo fv, w.heap[g]? = some (.cells (rdArr s at_ n0 n1 n2 n3 a0 a1 a2 a3 lo fv) 50 (0, 0)) ∧ OptT w n0 n1 n2 n3 st.next ∧ OptT w a0 a1 a2 a3 st.all ∧ Opt w lo st.long ∧
    w.ownsRow B 36 7 fv st.files.length (filesCells st.files) ∧ B ≤ g
theorem OptT.kept {w w' : World} {v0 v1 v2 v3 : Value} {t : ToldM} {row : Option Nat} (h : OptT w v0 v1 v2 v3 t) (hg : w.grownBy w' row)
    (hr : ∀ g, row = some g → ∃ cs t, w.heap[g]? = some (.cells cs t (0, 0)) ∧ t ≠ 93 ∧ t ≠ 9) : OptT w' v0 v1 v2 v3 t :=
  ⟨h.path.kept hg hr, h.link.kept hg hr, h.size.kept hg hr, h.time.kept hg hr⟩
theorem grown_below {w w' : World} (h : Below w.heap.size w w') : w.grownBy w' none := ⟨h.os, h.tape, h.output, h.size, fun k hk _ => h.block k hk⟩
theorem Rd.kept {B g : Nat} {s : ByteArray} {at_ : Nat} {st : StM} {w w' : World} (h : Rd B g s at_ st w) (hg : w.grownBy w' none) : Rd B g s at_ st w' := by
  obtain ⟨n0, n1, n2, n3, a0, a1, a2, a3, lo, fv, hb, hn, ha, hl, hf, hB⟩ := h
  exact ⟨_, _, _, _, _, _, _, _, _, _, (hg.block g (Array.getElem?_eq_some_iff.1 hb).1 (by simp)).trans hb, hn.kept hg (fun _ e => by cases e), ha.kept hg (fun _ e => by cases e), hl.same hg,
    hf.kept hg (by cases fv.ownBlock <;> simp), hB⟩
theorem Rd.lt {B g : Nat} {s : ByteArray} {at_ : Nat} {st : StM} {w : World} (h : Rd B g s at_ st w) : g < w.heap.size := by
  obtain ⟨n0, n1, n2, n3, a0, a1, a2, a3, lo, fv, hb, _⟩ := h
  exact (Array.getElem?_eq_some_iff.1 hb).1
theorem row_ne {w : World} {B g : Nat} {fv : Value} {n : Nat} {xs : List Value} {cs : Array Value} {t : TypeId} (hf : w.ownsRow B 36 7 fv n xs) (hb : w.heap[g]? = some (.cells cs t (0, 0))) (ht : t ≠ 36) :
    fv.ownBlock = none ∨ fv.ownBlock ≠ some g := by
  rcases hf.2 with ⟨rfl, _⟩ | ⟨g', cap, cur, rfl, _, hh, _⟩
  · left; rfl
  · right
    intro e
    have : g' = g := by simpa [Value.ownBlock] using e
    subst this
    rw [hb] at hh; injection hh with hh; injection hh with _ ht' _; exact ht ht'
/-- a store into the reader's own block, or into another one that is none of the lists -/
theorem opt_set {w : World} {g i : Nat} {v x : Value} {o : Option Bs} {cs : Array Value} {t : TypeId} (h : Opt w x o) (hb : w.heap[g]? = some (.cells cs t (0, 0))) (h1 : t ≠ 93) (h2 : t ≠ 9) : Opt (w.setCell ⟨g, i, none⟩ v) x o :=
  h.kept (grown_set w g i v) fun g' e => by injection e with e; subst e; exact ⟨_, _, hb, h1, h2⟩
theorem optT_set {w : World} {g i : Nat} {v x0 x1 x2 x3 : Value} {o : ToldM} {cs : Array Value} {t : TypeId} (h : OptT w x0 x1 x2 x3 o) (hb : w.heap[g]? = some (.cells cs t (0, 0))) (h1 : t ≠ 93) (h2 : t ≠ 9) : OptT (w.setCell ⟨g, i, none⟩ v) x0 x1 x2 x3 o :=
  ⟨opt_set h.path hb h1 h2, opt_set h.link hb h1 h2, opt_set h.size hb h1 h2, opt_set h.time hb h1 h2⟩
theorem Rd.far {B g b i : Nat} {s : ByteArray} {at_ : Nat} {st : StM} {w : World} {t : TypeId} {v : Value} (h : Rd B g s at_ st w) (hb : HasT w b t)
    (h1 : t ≠ 93) (h2 : t ≠ 9) (h3 : t ≠ 36) (h4 : t ≠ 50) : Rd B g s at_ st (w.setCell ⟨b, i, none⟩ v) := by
  obtain ⟨cs, hb⟩ := hb
  obtain ⟨n0, n1, n2, n3, a0, a1, a2, a3, lo, fv, hg, hn, ha, hl, hf, hB⟩ := h
  have hne : g ≠ b := by rintro rfl; rw [hb] at hg; injection hg with hg; injection hg with _ ht _; exact h4 ht
  exact ⟨_, _, _, _, _, _, _, _, _, _, (Below.heap_setCell _ _ _ _ hne).trans hg, optT_set hn hb h1 h2, optT_set ha hb h1 h2, opt_set hl hb h1 h2, hf.kept (grown_set w b i v) (row_ne hf hb h3), hB⟩
theorem Rd.alloc {B g : Nat} {s : ByteArray} {at_ : Nat} {st : StM} {w : World} (h : Rd B g s at_ st w) (o : Obj) : Rd B g s at_ st (w.alloc o) := h.kept (World.grownBy_alloc _ _ _)
theorem Rd.drewN {B g : Nat} {s : ByteArray} {at_ : Nat} {st : StM} {w : World} (h : Rd B g s at_ st w) (n : Nat) : Rd B g s at_ st (w.drewN n) := h.kept ⟨rfl, rfl, rfl, Nat.le_refl _, fun _ _ _ => rfl⟩
theorem Rd.fault {B g b : Nat} {s : ByteArray} {at_ : Nat} {st : StM} {w : World} {x y : Value} (h : Rd B g s at_ st w) (hb : HasT w b 26) : Rd B g s at_ st ((w.setCell ⟨b, 0, none⟩ x).setCell ⟨b, 1, none⟩ y) :=
  (h.far hb (by decide) (by decide) (by decide) (by decide)).far (hb.set _ _ _) (by decide) (by decide) (by decide) (by decide)
theorem Rd.setLong {B g : Nat} {s : ByteArray} {at_ : Nat} {st : StM} {w : World} {v : Value} {o : Option Bs} (h : Rd B g s at_ st w) (hv : Opt w v o) : Rd B g s at_ { st with long := o } (w.setCell ⟨g, 10, none⟩ v) := by
  obtain ⟨n0, n1, n2, n3, a0, a1, a2, a3, lo, fv, hg, hn, ha, hl, hf, hB⟩ := h
  have hs := block_set hg 10 v
  exact ⟨_, _, _, _, _, _, _, _, _, _, hs, optT_set hn hg (by decide) (by decide), optT_set ha hg (by decide) (by decide), opt_set hv hg (by decide) (by decide), hf.kept (grown_set w g 10 v) (row_ne hf hg (by decide)), hB⟩
theorem Opt.one (w : World) (y : ByteArray) (hy : y.size ≤ 16777216) : Opt (w.alloc (.cells #[.string y] 9)) (.slice (some ⟨w.heap.size, 0, none⟩) 1 1) (some (bl y)) :=
  .inr ⟨w.heap.size, 0, y, _, _, rfl, rfl, heap_alloc_new _ _, rfl, .inr rfl, hy⟩
theorem own_grown {w w' : World} {B g : Nat} {fv : Value} {n : Nat} {xs : List Value} {cs : Array Value} (hf : w.ownsRow B 36 7 fv n xs) (hb : w.heap[g]? = some (.cells cs 50 (0, 0))) (hg : w.grownBy w' (some g)) :
    w'.ownsRow B 36 7 fv n xs := hf.kept hg (row_ne hf hb (by decide))
theorem below_grown {B g : Nat} {w w' : World} (hg : w.grownBy w' (some g)) (hB : B ≤ g) (hs : B ≤ w.heap.size) : Below B w w' :=
  (Below.refl B w).grown hg hs fun k e => by injection e with e; omega

def specialM (st : StM) (kind : Nat) (data : Bs) (p : Nat) : Except (Nat × Nat) StM :=
  if kind = 76 then .ok { st with long := some (takeTo 0 data) }
  else match records data.length data [] with
    | none => .error (4, p + 512)
    | some rs => if kind = 120 then .ok { st with next := layM st.next rs } else .ok { st with all := layM st.all rs }

/-- the faults that were there are as they were -/
def KeepF (w w' : World) : Prop := ∀ (b : Nat) (cs : Array Value), w.heap[b]? = some (.cells cs 26 (0, 0)) → w'.heap[b]? = some (.cells cs 26 (0, 0))
theorem KeepF.below {w w' : World} (h : Below w.heap.size w w') : KeepF w w' := fun b _ e => (h.block b (Array.getElem?_eq_some_iff.1 e).1).trans e
theorem KeepF.refl (w : World) : KeepF w w := fun _ _ e => e
theorem KeepF.trans {a b c : World} (h : KeepF a b) (k : KeepF b c) : KeepF a c := fun i cs e => k i cs (h i cs e)
theorem KeepF.grown {w a c : World} {row : Option Nat} (h : KeepF w a) (hg : a.grownBy c row) (hr : ∀ k, row = some k → (∃ t, HasT a k t ∧ t ≠ 26)) : KeepF w c := by
  intro b cs e
  have e' := h b cs e
  refine (hg.block b (Array.getElem?_eq_some_iff.1 e').1 fun x => ?_).trans e'
  obtain ⟨t, ⟨cs', ht⟩, hne⟩ := hr b x.symm
  rw [e'] at ht; injection ht with ht; injection ht with _ ht _; exact hne ht.symm
theorem KeepF.alloc {w a : World} (h : KeepF w a) (o : Obj) : KeepF w (a.alloc o) := h.grown (World.grownBy_alloc _ _ none) fun _ e => by cases e
theorem KeepF.drewN {w a : World} (h : KeepF w a) (n : Nat) : KeepF w (a.drewN n) := h
theorem KeepF.drew {w a : World} (h : KeepF w a) : KeepF w a.drew := h
theorem KeepF.set {w a : World} {g : Nat} {t : TypeId} (h : KeepF w a) (hT : HasT a g t) (ht : t ≠ 26) (i : Nat) (v : Value) : KeepF w (a.setCell ⟨g, i, none⟩ v) :=
  h.grown (grown_set a g i v) fun k e => by injection e with e; subst e; exact ⟨t, hT, ht⟩
theorem KeepF.new {w a : World} {N : Nat} (h : KeepF w a) (hN : w.heap.size ≤ N) (i : Nat) (v : Value) : KeepF w (a.setCell ⟨N, i, none⟩ v) := fun b cs e =>
  (Below.heap_setCell _ _ _ _ (by have := (Array.getElem?_eq_some_iff.1 e).1; show b ≠ N; omega)).trans (h b cs e)
theorem Rd.hasT {B g : Nat} {s : ByteArray} {at_ : Nat} {st : StM} {w : World} (h : Rd B g s at_ st w) : HasT w g 50 := by
  obtain ⟨n0, n1, n2, n3, a0, a1, a2, a3, lo, fv', hg, _⟩ := h; exact ⟨_, hg⟩

def StepR (B g : Nat) (s : ByteArray) (at_ : Nat) (r : Except (Nat × Nat) StM) (w : World) (e : Ending) (w' : World) : Prop :=
  Below B w w' ∧ KeepF w w' ∧ match r with
    | .error (c, a) => e = .returned (.agg #[.int .i64 c, .int .i64 a]) ∧ c ≠ 0
    | .ok st' => e = .returned (.agg #[.int .i64 0, .int .i64 0]) ∧ Rd B g s at_ st' w'
theorem StepR.err {B g : Nat} {s : ByteArray} {at_ : Nat} {r : Except (Nat × Nat) StM} {w w' : World} {c a : Nat} {x y : Int} (h : r = .error (c, a)) (hc : c ≠ 0) (hx : x = c) (hy : y = a) (hb : Below B w w') (hk : KeepF w w') :
    StepR B g s at_ r w (.returned (.agg #[.int .i64 x, .int .i64 y])) w' := by subst h; subst hx; subst hy; exact ⟨hb, hk, rfl, hc⟩
theorem StepR.fine {B g : Nat} {s : ByteArray} {at_ : Nat} {r : Except (Nat × Nat) StM} {w w' : World} {st' : StM} (h : r = .ok st') (hr : Rd B g s at_ st' w') (hb : Below B w w') (hk : KeepF w w') :
    StepR B g s at_ r w (.returned (.agg #[.int .i64 0, .int .i64 0])) w' := by subst h; exact ⟨hb, hk, rfl, hr⟩

theorem StepR.cast {B g : Nat} {s : ByteArray} {at_ : Nat} {r : Except (Nat × Nat) StM} {w : World} {e : Ending} {W W' : World} (h : StepR B g s at_ r w e W) (hw : W' = W) : StepR B g s at_ r w e W' := by subst hw; exact h
theorem records_no {s : ByteArray} {m : Int} {w : World} (h : records s.size (bl s) [] = none) (hs : s.size ≤ 16777216) (hm : w.cell? ⟨2, 0, none⟩ = some (.int .i64 m)) :
    Calls Tryd.prog 62 #[.string s] w fun e w' => e = .returned (.tuple #[.slice none 0 0, .bool false]) ∧ Below w.heap.size w w' :=
  (records_any s m w hs hm).mono fun _ _ h' => by unfold RecR at h'; rw [h] at h'; exact h'
theorem records_yes {s : ByteArray} {m : Int} {w : World} {rs : List Rec} (h : records s.size (bl s) [] = some rs) (hs : s.size ≤ 16777216) (hm : w.cell? ⟨2, 0, none⟩ = some (.int .i64 m)) :
    Calls Tryd.prog 62 #[.string s] w fun e w' => ∃ v, e = .returned (.tuple #[v, .bool true]) ∧ w'.ownsRow w.heap.size 93 2 v rs.length (recCells rs) ∧ Below w.heap.size w w' ∧ rs.length ≤ s.size :=
  (records_any s m w hs hm).mono fun _ _ h' => by unfold RecR at h'; rw [h] at h'; exact h'
theorem Rd.four2 {B g : Nat} {s : ByteArray} {at_ : Nat} {st : StM} {w : World} (h : Rd B g s at_ st w) : ∃ cs : Array Value, cs.size = 12 ∧ Four g 2 cs st.next w ∧
    ∀ t' w', Four g 2 cs t' w' → w.grownBy w' (some g) → Rd B g s at_ { st with next := t' } w' := by
  obtain ⟨n0, n1, n2, n3, a0, a1, a2, a3, lo, fv, hb, hn, ha, hl, hf, hB⟩ := h
  refine ⟨rdArr s at_ n0 n1 n2 n3 a0 a1 a2 a3 lo fv, rfl, ⟨n0, n1, n2, n3, hb, hn.path, hn.link, hn.size, hn.time⟩, fun t' w' h4 hg => ?_⟩
  obtain ⟨x0, x1, x2, x3, hb', h0, h1, h2, h3⟩ := h4.vals
  have hk : ∀ g', some g = some g' → ∃ cs t, w.heap[g']? = some (.cells cs t (0, 0)) ∧ t ≠ 93 ∧ t ≠ 9 := fun g' e => by injection e with e; subst e; exact ⟨_, _, hb, by decide, by decide⟩
  exact ⟨x0, x1, x2, x3, a0, a1, a2, a3, lo, fv, hb', ⟨h0, h1, h2, h3⟩, ha.kept hg hk, hl.kept hg hk, own_grown hf hb hg, hB⟩
theorem Rd.four6 {B g : Nat} {s : ByteArray} {at_ : Nat} {st : StM} {w : World} (h : Rd B g s at_ st w) : ∃ cs : Array Value, cs.size = 12 ∧ Four g 6 cs st.all w ∧
    ∀ t' w', Four g 6 cs t' w' → w.grownBy w' (some g) → Rd B g s at_ { st with all := t' } w' := by
  obtain ⟨n0, n1, n2, n3, a0, a1, a2, a3, lo, fv, hb, hn, ha, hl, hf, hB⟩ := h
  refine ⟨rdArr s at_ n0 n1 n2 n3 a0 a1 a2 a3 lo fv, rfl, ⟨a0, a1, a2, a3, hb, ha.path, ha.link, ha.size, ha.time⟩, fun t' w' h4 hg => ?_⟩
  obtain ⟨x0, x1, x2, x3, hb', h0, h1, h2, h3⟩ := h4.vals
  have hk : ∀ g', some g = some g' → ∃ cs t, w.heap[g']? = some (.cells cs t (0, 0)) ∧ t ≠ 93 ∧ t ≠ 9 := fun g' e => by injection e with e; subst e; exact ⟨_, _, hb, by decide, by decide⟩
  exact ⟨n0, n1, n2, n3, x0, x1, x2, x3, lo, fv, hb', hn.kept hg hk, ⟨h0, h1, h2, h3⟩, hl.kept hg hk, own_grown hf hb hg, hB⟩
theorem fault_cells {w w' : World} {K : Nat} (hb : Below K (w.alloc (.cells #[.int .i64 0, .int .i64 0] 26)) w') (hK : w.heap.size < K) :
    w'.heap[w.heap.size]? = some (.cells #[.int .i64 0, .int .i64 0] 26 (0, 0)) := (hb.block _ hK).trans (heap_alloc_new _ _)

set_option maxRecDepth 100000 in
set_option maxHeartbeats 2000000 in
theorem special_any (B g : Nat) (s : ByteArray) (at_ : Nat) (st : StM) (kind : UInt8) (data : ByteArray) (p : Nat) (m : Int) (w : World) (hR : Rd B g s at_ st w) (hp : p ≤ 16777216) (hd : data.size ≤ 16777216)
    (hmB : 2 < B) (hm : w.cell? ⟨2, 0, none⟩ = some (.int .i64 m)) :
    Calls Tryd.prog 41 #[.pointer (some ⟨g, 0, none⟩), .int .u8 kind.toNat, .string data, .int .i64 p] w (StepR B g s at_ (specialM st kind.toNat (bl data) p) w) := by
  have hgl := hR.lt
  have hBg : B ≤ g := by obtain ⟨n0, n1, n2, n3, a0, a1, a2, a3, lo, fv, hb, hn, ha, hl, hf, hB⟩ := hR; exact hB
  have hBw : B ≤ w.heap.size := by omega
  by_cases hk : kind.toNat = 76
  · have HM := Lib.hid (show specialM st kind.toNat (bl data) p = .ok { st with long := some (takeTo 0 (bl data)) } by rw [specialM, if_pos hk])
    have hkb : ((kind.toNat : Int) == 76) = true := beq_iff_eq.2 (by omega)
    clear hk
    go_enter Tryd.func41, Tryd.ntmps41
    go_wp2_with fail
    refine (cut_any data 0 m _ hd ((World.cell?_alloc_lt w _ _ (by show 2 < w.heap.size; omega)).trans hm)).mono ?_
    rintro e w1 ⟨a, b, rfl, ha, hb, has, nn, rfl⟩
    have HA := Lib.hid ha; clear ha hb
    have es : ((w.alloc (.cells #[.int .i64 0, .int .i64 0] 26)).drewN nn).heap.size = w.heap.size + 1 := by simp
    have hO := Opt.one ((w.alloc (.cells #[.int .i64 0, .int .i64 0] 26)).drewN nn) a (by omega)
    rw [es] at hO
    have hT := HasT.new w #[.int .i64 0, .int .i64 0] 26
    have hX := (((hR.alloc (.cells #[.int .i64 0, .int .i64 0] 26)).drewN nn).alloc (.cells #[.string a] 9)).setLong hO
    have hFin := hX.fault (x := .int .i64 0) (y := .int .i64 0) (((hT.drewN nn).alloc (.cells #[.string a] 9)).set g 10 (.slice (some ⟨w.heap.size + 1, 0, none⟩) 1 1))
    have hBel : Below B w ((((((w.alloc (.cells #[.int .i64 0, .int .i64 0] 26)).drewN nn).alloc (.cells #[.string a] 9)).setCell ⟨g, 10, none⟩ (.slice (some ⟨w.heap.size + 1, 0, none⟩) 1 1)).setCell ⟨w.heap.size, 0, none⟩ (.int .i64 0)).setCell ⟨w.heap.size, 1, none⟩ (.int .i64 0)) :=
      ((((below_drewN ((Below.refl B w).alloc hBw _) nn).alloc (by simp; omega) _).setCell hBg _).setCell hBw _).setCell hBw _
    have hKp := ((((((KeepF.refl w).alloc (.cells #[.int .i64 0, .int .i64 0] 26)).drewN nn).alloc (.cells #[.string a] 9)).set (((hR.hasT.alloc (.cells #[.int .i64 0, .int .i64 0] 26)).drewN nn).alloc (.cells #[.string a] 9)) (by decide) 10 (.slice (some ⟨w.heap.size + 1, 0, none⟩) 1 1)).new (Nat.le_refl _) 0 (.int .i64 0)).new (Nat.le_refl _) 1 (.int .i64 0)
    have FIN := Lib.hid (StepR.fine (HM.out.trans (by rw [← HA.out])) hFin hBel hKp)
    obtain ⟨n0, n1, n2, n3, a0, a1, a2, a3, lo, fv, hb, hn, ha, hl, hf, hB⟩ := hR
    have c10 : w.cell? ⟨g, 10, none⟩ = some lo := by rw [cell_of_row _ _ _ _ _ _ hb]; rfl
    have fr : w.frozen? ⟨g, 10, none⟩ = false := by simp [World.frozen?, hb]
    clear hb hO hT hX hFin hBel hKp es hn ha hl hf hB
    go_wp2_with fail
    refine bodyPost_ret (v := .agg #[.int .i64 0, .int .i64 0]) (by simp [results, Tryd.results41, go_sem]) rfl ?_
    exact FIN.out.cast (by go_simp)
  · have hkb : ((kind.toNat : Int) == 76) = false := beq_eq_false_iff_ne.2 (by omega)
    have hRF := hR.alloc (.cells #[.int .i64 0, .int .i64 0] 26)
    have hmF := (World.cell?_alloc_lt w (.cells #[.int .i64 0, .int .i64 0] 26) ⟨2, 0, none⟩ (by show 2 < w.heap.size; omega)).trans hm
    have hBF : Below B w (w.alloc (.cells #[.int .i64 0, .int .i64 0] 26)) := (Below.refl B w).alloc hBw _
    have hsF : w.heap.size < (w.alloc (.cells #[.int .i64 0, .int .i64 0] 26)).heap.size := by simp
    clear hR hm
    rcases hrec : records data.size (bl data) [] with _ | rs
    · have HM := Lib.hid (show specialM st kind.toNat (bl data) p = .error (4, p + 512) by rw [specialM, if_neg hk, bl_length, hrec])
      have C := Lib.hid (records_no hrec hd hmF)
      clear hk hrec
      go_enter Tryd.func41, Tryd.ntmps41
      go_wp2_with fail
      refine C.out.mono ?_
      rintro e w1 ⟨rfl, hb1⟩
      have hN := fault_cells hb1 hsF
      have hB1 := hBF.trans (hb1.mono (by omega))
      have hK1 : KeepF w w1 := KeepF.below (((Below.refl _ w).alloc (Nat.le_refl _) _).trans (hb1.mono (by omega)))
      have d0 : w1.cell? ⟨w.heap.size, 0, none⟩ = some (.int .i64 0) := by rw [cell_of_row _ _ _ _ _ _ hN]; rfl
      have d1 : w1.cell? ⟨w.heap.size, 1, none⟩ = some (.int .i64 0) := by rw [cell_of_row _ _ _ _ _ _ hN]; rfl
      have df : ∀ i, w1.frozen? ⟨w.heap.size, i, none⟩ = false := fun i => by simp [World.frozen?, hN]
      have FIN := Lib.hid (StepR.err (B := B) (g := g) (s := s) (at_ := at_) (x := 4) (y := (p : Int) + 512) HM.out (by decide) rfl (by omega) ((hB1.setCell (p := ⟨w.heap.size, 0, none⟩) hBw (.int .i64 4)).setCell (p := ⟨w.heap.size, 1, none⟩) hBw (.int .i64 ((p : Int) + 512))) ((hK1.new (Nat.le_refl _) 0 _).new (Nat.le_refl _) 1 _))
      clear hN hB1 hK1 hb1 C hBF hRF
      go_wp2_with fail
      refine bodyPost_ret (v := .agg #[.int .i64 4, .int .i64 ((p : Int) + 512)]) (by simp [results, Tryd.results41, go_sem, d0, d1]) rfl ?_
      exact FIN.out
    · have C := Lib.hid (records_yes hrec hd hmF)
      have HLE := Lib.hid (records_le _ _ _ _ 16777216 hrec (by rw [bl_length]; exact hd) (by simp))
      by_cases h120 : kind.toNat = 120
      all_goals
        have HM := Lib.hid (show specialM st kind.toNat (bl data) p = (if kind.toNat = 120 then .ok { st with next := layM st.next rs } else .ok { st with all := layM st.all rs }) by rw [specialM, if_neg hk, bl_length, hrec])
        clear hk hrec
      · have HM := Lib.hid (HM.out.trans (if_pos h120))
        have hk2 : ((kind.toNat : Int) == 120) = true := beq_iff_eq.2 (by omega)
        clear h120
        go_enter Tryd.func41, Tryd.ntmps41
        go_wp2_with fail
        refine C.out.mono ?_
        rintro e w1 ⟨v, rfl, hown, hb1, hlen⟩
        have hN := fault_cells hb1 hsF
        have hB1 := hBF.trans (hb1.mono (by omega))
        have hR1 := hRF.kept (grown_below hb1)
        have hK1 : KeepF w w1 := KeepF.below (((Below.refl _ w).alloc (Nat.le_refl _) _).trans (hb1.mono (by omega)))
        have hs1 := hb1.size
        clear hb1 C hBF hRF
        obtain ⟨cs, hcs, h4, hback⟩ := hR1.four2
        have HBACK := Lib.hid hback; clear hback
        go_wp2_with fail
        refine (lay_any rs v g 2 cs _ _ (by omega) (recsAt_own HLE.out hown) h4 (by omega)).mono ?_
        rintro e w2 ⟨rfl, h4', hgr⟩
        have hR2 := HBACK.out _ _ h4' hgr
        have hN2 : w2.heap[w.heap.size]? = some (.cells #[.int .i64 0, .int .i64 0] 26 (0, 0)) := (hgr.block _ (by omega) (fun e => by injection e with e; omega)).trans hN
        have hB2 : Below B w w2 := hB1.trans (below_grown hgr hBg (by omega))
        have hFin := hR2.fault (x := .int .i64 0) (y := .int .i64 0) ⟨_, hN2⟩
        have hBel := (hB2.setCell (p := ⟨w.heap.size, 0, none⟩) hBw (.int .i64 0)).setCell (p := ⟨w.heap.size, 1, none⟩) hBw (.int .i64 0)
        have hK2 := ((hK1.grown hgr (fun k e => by injection e with e; subst e; exact ⟨_, hR1.hasT, by decide⟩)).new (Nat.le_refl _) 0 (.int .i64 0)).new (Nat.le_refl _) 1 (.int .i64 0)
        have FIN := Lib.hid (StepR.fine HM.out hFin hBel hK2)
        have d0 : w2.cell? ⟨w.heap.size, 0, none⟩ = some (.int .i64 0) := by rw [cell_of_row _ _ _ _ _ _ hN2]; rfl
        have d1 : w2.cell? ⟨w.heap.size, 1, none⟩ = some (.int .i64 0) := by rw [cell_of_row _ _ _ _ _ _ hN2]; rfl
        have df : ∀ i, w2.frozen? ⟨w.heap.size, i, none⟩ = false := fun i => by simp [World.frozen?, hN2]
        clear hR2 hN2 hB2 hFin hBel h4 h4' hR1 hN hB1 hgr hown hK1 hK2
        go_wp2_with fail
        refine bodyPost_ret (v := .agg #[.int .i64 0, .int .i64 0]) (by simp [results, Tryd.results41, go_sem, d0, d1]) rfl ?_
        exact FIN.out
      · have HM := Lib.hid (HM.out.trans (if_neg h120))
        have hk2 : ((kind.toNat : Int) == 120) = false := beq_eq_false_iff_ne.2 (by omega)
        clear h120
        go_enter Tryd.func41, Tryd.ntmps41
        go_wp2_with fail
        refine C.out.mono ?_
        rintro e w1 ⟨v, rfl, hown, hb1, hlen⟩
        have hN := fault_cells hb1 hsF
        have hB1 := hBF.trans (hb1.mono (by omega))
        have hR1 := hRF.kept (grown_below hb1)
        have hK1 : KeepF w w1 := KeepF.below (((Below.refl _ w).alloc (Nat.le_refl _) _).trans (hb1.mono (by omega)))
        have hs1 := hb1.size
        clear hb1 C hBF hRF
        obtain ⟨cs, hcs, h4, hback⟩ := hR1.four6
        have HBACK := Lib.hid hback; clear hback
        go_wp2_with fail
        refine (lay_any rs v g 6 cs _ _ (by omega) (recsAt_own HLE.out hown) h4 (by omega)).mono ?_
        rintro e w2 ⟨rfl, h4', hgr⟩
        have hR2 := HBACK.out _ _ h4' hgr
        have hN2 : w2.heap[w.heap.size]? = some (.cells #[.int .i64 0, .int .i64 0] 26 (0, 0)) := (hgr.block _ (by omega) (fun e => by injection e with e; omega)).trans hN
        have hB2 : Below B w w2 := hB1.trans (below_grown hgr hBg (by omega))
        have hFin := hR2.fault (x := .int .i64 0) (y := .int .i64 0) ⟨_, hN2⟩
        have hBel := (hB2.setCell (p := ⟨w.heap.size, 0, none⟩) hBw (.int .i64 0)).setCell (p := ⟨w.heap.size, 1, none⟩) hBw (.int .i64 0)
        have hK2 := ((hK1.grown hgr (fun k e => by injection e with e; subst e; exact ⟨_, hR1.hasT, by decide⟩)).new (Nat.le_refl _) 0 (.int .i64 0)).new (Nat.le_refl _) 1 (.int .i64 0)
        have FIN := Lib.hid (StepR.fine HM.out hFin hBel hK2)
        have d0 : w2.cell? ⟨w.heap.size, 0, none⟩ = some (.int .i64 0) := by rw [cell_of_row _ _ _ _ _ _ hN2]; rfl
        have d1 : w2.cell? ⟨w.heap.size, 1, none⟩ = some (.int .i64 0) := by rw [cell_of_row _ _ _ _ _ _ hN2]; rfl
        have df : ∀ i, w2.frozen? ⟨w.heap.size, i, none⟩ = false := fun i => by simp [World.frozen?, hN2]
        clear hR2 hN2 hB2 hFin hBel h4 h4' hR1 hN hB1 hgr hown hK1 hK2
        go_wp2_with fail
        refine bodyPost_ret (v := .agg #[.int .i64 0, .int .i64 0]) (by simp [results, Tryd.results41, go_sem, d0, d1]) rfl ?_
        exact FIN.out
end Tp
end Go.Proofs.YtiehjmjobcklmaaDoor
