/- Walks: what extended heads tell (tape.told.lay, tape.over). -/
import Derived.Test.YtiehjmjobcklmaaDoorTp7
namespace Go.Proofs.YtiehjmjobcklmaaDoor
open Go.RowKit Go.Shelf Go.Lib
namespace Tp
structure ToldM where
  path : Option Bs
  link : Option Bs
  size : Option Bs
  time : Option Bs
def kPath : Bs := [112, 97, 116, 104]
def kLink : Bs := [108, 105, 110, 107, 112, 97, 116, 104]
def kSize : Bs := [115, 105, 122, 101]
def kTime : Bs := [109, 116, 105, 109, 101]
def layOne (t : ToldM) (r : Rec) : ToldM :=
  if r.1 = kPath then { t with path := some r.2 } else if r.1 = kLink then { t with link := some r.2 } else if r.1 = kSize then { t with size := some r.2 } else if r.1 = kTime then { t with time := some r.2 } else t
def layM (t : ToldM) (rs : List Rec) : ToldM := rs.foldl layOne t
theorem layM_snoc (t : ToldM) (rs : List Rec) (r : Rec) : layM t (rs ++ [r]) = layOne (layM t rs) r := by simp [layM]
theorem layM_step (t : ToldM) {rs : List Rec} {k : Nat} (h : k < rs.length) : layM t (rs.take (k + 1)) = layOne (layM t (rs.take k)) rs[k] := by
  rw [List.take_succ_eq_append_getElem h, layM_snoc]

/-- a list of one text, or of none -/
def Opt (w : World) (v : Value) (o : Option Bs) : Prop :=
  (o = none ∧ v = .slice none 0 0) ∨ ∃ (b off : Nat) (r : ByteArray) (cs : Array Value) (t : TypeId), o = some (bl r) ∧ v = .slice (some ⟨b, off, none⟩) 1 1 ∧ w.heap[b]? = some (.cells cs t (0, 0)) ∧ cs[off]? = some (.string r) ∧
    (t = 93 ∨ t = 9) ∧ r.size ≤ 16777216
theorem Opt.none_ (w : World) : Opt w (.slice none 0 0) none := .inl ⟨rfl, rfl⟩
theorem Opt.kept {w w' : World} {v : Value} {o : Option Bs} {row : Option Nat} (h : Opt w v o) (hg : w.grownBy w' row)
    (hr : ∀ g, row = some g → ∃ cs t, w.heap[g]? = some (.cells cs t (0, 0)) ∧ t ≠ 93 ∧ t ≠ 9) : Opt w' v o := by
  rcases h with h | ⟨b, off, r, cs, t, h1, h2, h3, h4, h5, h6⟩
  · exact .inl h
  · refine .inr ⟨b, off, r, cs, t, h1, h2, ?_, h4, h5, h6⟩
    rw [hg.block b (Array.getElem?_eq_some_iff.1 h3).1 ?_]
    · exact h3
    · intro e
      obtain ⟨cs', t', h7, h8, h9⟩ := hr b e.symm
      rw [h3] at h7
      injection h7 with h7
      injection h7 with _ ht _
      subst ht
      rcases h5 with h5 | h5
      · exact h8 h5
      · exact h9 h5
theorem Opt.same {w w' : World} {v : Value} {o : Option Bs} (h : Opt w v o) (hg : w.grownBy w' none) : Opt w' v o := h.kept hg fun _ e => by cases e
theorem Opt.form {w : World} {v : Value} {o : Option Bs} (h : Opt w v o) : (o = none ∧ v = .slice none 0 0) ∨ ∃ (b off : Nat) (r : ByteArray), o = some (bl r) ∧ v = .slice (some ⟨b, off, none⟩) 1 1 ∧ w.cell? ⟨b, off, none⟩ = some (.string r) ∧ r.size ≤ 16777216 := by
  rcases h with h | ⟨b, off, r, cs, t, h1, h2, h3, h4, _, h6⟩
  · exact .inl h
  · exact .inr ⟨b, off, r, h1, h2, by rw [cell_of_row _ _ _ _ _ _ h3]; exact h4, h6⟩

def overM (a b : Option Bs) : Option Bs := match a with | some x => some x | none => b
theorem over_any (va vb : Value) (oa ob : Option Bs) (w w0 : World) (ha : Opt w0 va oa) (hb : Opt w0 vb ob) :
    Calls Tryd.prog 36 #[va, vb] w fun e w' => (∃ v, e = .returned v ∧ Opt w0 v (overM oa ob)) ∧ w = w' := by
  rcases ha with ⟨rfl, rfl⟩ | ⟨b, off, r, cs, t, rfl, rfl, h3, h4, h5, h6⟩
  · rcases hb with ⟨rfl, rfl⟩ | ⟨b', off', r', cs', t', rfl, rfl, h3', h4', h5', h6'⟩
    · go_enter Tryd.func36, Tryd.ntmps36
      go_wp2
      go_ret
      exact ⟨⟨_, rfl, .inl ⟨rfl, rfl⟩⟩, rfl⟩
    · have H := Lib.hid (show Opt w0 (.slice (some ⟨b', off', none⟩) 1 1) (some (bl r')) from .inr ⟨b', off', r', cs', t', rfl, rfl, h3', h4', h5', h6'⟩)
      clear h3' h4' h5' h6'
      go_enter Tryd.func36, Tryd.ntmps36
      go_wp2
      go_ret
      exact ⟨⟨_, rfl, H.out⟩, rfl⟩
  · have H := Lib.hid (show Opt w0 (.slice (some ⟨b, off, none⟩) 1 1) (some (bl r)) from .inr ⟨b, off, r, cs, t, rfl, rfl, h3, h4, h5, h6⟩)
    clear h3 h4 h5 h6 hb
    go_enter Tryd.func36, Tryd.ntmps36
    go_wp2
    go_ret
    exact ⟨⟨_, rfl, H.out⟩, rfl⟩

/-- four fields of a told, at a place of the reader's block -/
def set4 (cs : Array Value) (off : Nat) (x0 x1 x2 x3 : Value) : Array Value := (((cs.setIfInBounds off x0).setIfInBounds (off + 1) x1).setIfInBounds (off + 2) x2).setIfInBounds (off + 3) x3
structure Four (g off : Nat) (cs : Array Value) (t : ToldM) (w : World) : Prop where
  vals : ∃ x0 x1 x2 x3, w.heap[g]? = some (.cells (set4 cs off x0 x1 x2 x3) 50 (0, 0)) ∧ Opt w x0 t.path ∧ Opt w x1 t.link ∧ Opt w x2 t.size ∧ Opt w x3 t.time

section
variable {cs : Array Value} {off : Nat} {x0 x1 x2 x3 y : Value}
theorem set4_0 : (set4 cs off x0 x1 x2 x3).setIfInBounds off y = set4 cs off y x1 x2 x3 := by
  apply Array.ext_getElem?; intro i; simp only [set4, Array.getElem?_setIfInBounds, Array.size_setIfInBounds]; repeat' (first | rfl | (exfalso; omega) | (split <;> try (exfalso; omega)))
theorem set4_1 : (set4 cs off x0 x1 x2 x3).setIfInBounds (off + 1) y = set4 cs off x0 y x2 x3 := by
  apply Array.ext_getElem?; intro i; simp only [set4, Array.getElem?_setIfInBounds, Array.size_setIfInBounds]; repeat' (first | rfl | (exfalso; omega) | (split <;> try (exfalso; omega)))
theorem set4_2 : (set4 cs off x0 x1 x2 x3).setIfInBounds (off + 2) y = set4 cs off x0 x1 y x3 := by
  apply Array.ext_getElem?; intro i; simp only [set4, Array.getElem?_setIfInBounds, Array.size_setIfInBounds]; repeat' (first | rfl | (exfalso; omega) | (split <;> try (exfalso; omega)))
theorem set4_3 : (set4 cs off x0 x1 x2 x3).setIfInBounds (off + 3) y = set4 cs off x0 x1 x2 y := by
  apply Array.ext_getElem?; intro i; simp only [set4, Array.getElem?_setIfInBounds, Array.size_setIfInBounds]; repeat' (first | rfl | (exfalso; omega) | (split <;> try (exfalso; omega)))
end
theorem block_set {w : World} {g : Nat} {cs : Array Value} {t : TypeId} (h : w.heap[g]? = some (.cells cs t (0, 0))) (i : Nat) (v : Value) : (w.setCell ⟨g, i, none⟩ v).heap[g]? = some (.cells (cs.setIfInBounds i v) t (0, 0)) := by
  simp [World.setCell, Array.getElem?_modify, h]
theorem grown_set (w : World) (g i : Nat) (v : Value) : w.grownBy (w.setCell ⟨g, i, none⟩ v) (some g) :=
  ⟨rfl, rfl, rfl, by simp [World.setCell], fun k _ hne => Below.heap_setCell _ _ _ _ (fun e => hne (by rw [e]))⟩
theorem grown_trans {a b c : World} {row : Option Nat} (h : a.grownBy b row) (k : b.grownBy c row) : a.grownBy c row :=
  ⟨k.os.trans h.os, k.tape.trans h.tape, k.output.trans h.output, Nat.le_trans h.size k.size, fun i hi hne => (k.block i (Nat.lt_of_lt_of_le hi h.size) hne).trans (h.block i hi hne)⟩
theorem Opt.new (w : World) (x y : ByteArray) (hy : y.size ≤ 16777216) : Opt (w.alloc (.cells #[.string x, .string y] 93)) (.slice (some ⟨w.heap.size, 1, none⟩) 1 1) (some (bl y)) :=
  .inr ⟨w.heap.size, 1, y, _, _, rfl, rfl, heap_alloc_new _ _, rfl, .inl rfl, hy⟩
/-- a round of lay that tells something -/
theorem four_tell {g off : Nat} {cs : Array Value} {t t' : ToldM} {w : World} {x y : ByteArray} {i : Nat} (h : Four g off cs t w) (hg : g < w.heap.size) (hy : y.size ≤ 16777216)
    (ht : (i = 0 ∧ t' = { t with path := some (bl y) }) ∨ (i = 1 ∧ t' = { t with link := some (bl y) }) ∨ (i = 2 ∧ t' = { t with size := some (bl y) }) ∨ (i = 3 ∧ t' = { t with time := some (bl y) })) :
    Four g off cs t' ((w.alloc (.cells #[.string x, .string y] 93)).setCell ⟨g, off + i, none⟩ (.slice (some ⟨w.heap.size, 1, none⟩) 1 1)) := by
  obtain ⟨x0, x1, x2, x3, hb, h0, h1, h2, h3⟩ := h.vals
  have hb' : (w.alloc (.cells #[.string x, .string y] 93)).heap[g]? = _ := (Below.heap_alloc w _ g hg).trans hb
  have hs := block_set hb' (off + i) (.slice (some ⟨w.heap.size, 1, none⟩) 1 1)
  have hk : ∀ {v o}, Opt (w.alloc (.cells #[.string x, .string y] 93)) v o → Opt ((w.alloc (.cells #[.string x, .string y] 93)).setCell ⟨g, off + i, none⟩ (.slice (some ⟨w.heap.size, 1, none⟩) 1 1)) v o :=
    fun ho => ho.kept (grown_set _ _ _ _) (fun g' e => by injection e with e; subst e; exact ⟨_, _, hb', by decide, by decide⟩)
  have ha : ∀ {v o}, Opt w v o → Opt (w.alloc (.cells #[.string x, .string y] 93)) v o := fun ho => ho.same (World.grownBy_alloc _ _ _)
  have hn := Opt.new w x y hy
  rcases ht with ⟨rfl, rfl⟩ | ⟨rfl, rfl⟩ | ⟨rfl, rfl⟩ | ⟨rfl, rfl⟩
  · rw [Nat.add_zero, set4_0] at hs
    exact ⟨_, _, _, _, hs, hk hn, hk (ha h1), hk (ha h2), hk (ha h3)⟩
  · rw [set4_1] at hs
    exact ⟨_, _, _, _, hs, hk (ha h0), hk hn, hk (ha h2), hk (ha h3)⟩
  · rw [set4_2] at hs
    exact ⟨_, _, _, _, hs, hk (ha h0), hk (ha h1), hk hn, hk (ha h3)⟩
  · rw [set4_3] at hs
    exact ⟨_, _, _, _, hs, hk (ha h0), hk (ha h1), hk (ha h2), hk hn⟩
theorem four_quiet {g off : Nat} {cs : Array Value} {t : ToldM} {w : World} {o : Obj} (h : Four g off cs t w) (hg : g < w.heap.size) : Four g off cs t (w.alloc o) := by
  obtain ⟨x0, x1, x2, x3, hb, h0, h1, h2, h3⟩ := h.vals
  exact ⟨_, _, _, _, (Below.heap_alloc w _ g hg).trans hb, h0.same (World.grownBy_alloc _ _ _), h1.same (World.grownBy_alloc _ _ _), h2.same (World.grownBy_alloc _ _ _), h3.same (World.grownBy_alloc _ _ _)⟩
theorem Four.cell {g off : Nat} {cs : Array Value} {t : ToldM} {w : World} (h : Four g off cs t w) (hc : off + 3 < cs.size) (i : Nat) (hi : i < 4) : ∃ v, w.cell? ⟨g, off + i, none⟩ = some v := by
  obtain ⟨x0, x1, x2, x3, hb, _⟩ := h.vals
  rw [cell_of_row _ _ _ _ _ _ hb]
  exact ⟨_, Array.getElem?_eq_getElem (by simp [set4]; omega)⟩
theorem Four.free {g off : Nat} {cs : Array Value} {t : ToldM} {w : World} (h : Four g off cs t w) (i : Nat) : w.frozen? ⟨g, i, none⟩ = false := by
  obtain ⟨x0, x1, x2, x3, hb, _⟩ := h.vals
  simp [World.frozen?, hb]
theorem Four.lt {g off : Nat} {cs : Array Value} {t : ToldM} {w : World} (h : Four g off cs t w) : g < w.heap.size := by
  obtain ⟨x0, x1, x2, x3, hb, _⟩ := h.vals
  exact (Array.getElem?_eq_some_iff.1 hb).1

theorem recStep_le {l k v : Bs} {n : Nat} (h : recStep l = some (k, v, n)) : v.length ≤ l.length := by
  unfold recStep at h
  split at h
  · cases h
  · split at h
    · cases h
    · split at h
      · cases h
      · injection h with h
        injection h with _ h
        injection h with h _
        subst h
        rw [List.length_drop, List.length_drop]
        have := List.length_take_le (‹Nat› - 1) l
        omega
theorem records_le : ∀ (f : Nat) (l : Bs) (acc rs : List Rec) (N : Nat), records f l acc = some rs → l.length ≤ N → (∀ r ∈ acc, r.2.length ≤ N) → ∀ r ∈ rs, r.2.length ≤ N
  | f, [], acc, rs, N, h, _, ha => by rw [records_nil] at h; injection h with h; subst h; exact ha
  | 0, c :: l, acc, rs, N, h, _, _ => by cases h
  | f + 1, c :: l, acc, rs, N, h, hl, ha => by
    simp only [records] at h
    split at h
    · cases h
    · rename_i k v n hs
      have := recStep_le hs
      refine records_le f _ _ rs N h (by rw [List.length_drop]; omega) fun r hr => ?_
      rcases List.mem_append.1 hr with hr | hr
      · exact ha r hr
      · rw [List.mem_singleton] at hr; subst hr; simp only; omega
/-- the records behind a slice -/
def RecsAt (rs : List Rec) (v : Value) (w : World) : Prop :=
  ∃ ao cap, v = .slice ao rs.length cap ∧ (0 < rs.length → ∃ g0, ao = some ⟨g0, 0, none⟩ ∧ (∃ cs, w.heap[g0]? = some (.cells cs 93 (0, 0))) ∧
    ∀ j (_ : j < rs.length), ∃ x y : ByteArray, bl x = rs[j].1 ∧ bl y = rs[j].2 ∧ y.size ≤ 16777216 ∧ w.cell? ⟨g0, j * 2, none⟩ = some (.string x) ∧ w.cell? ⟨g0, j * 2 + 1, none⟩ = some (.string y))
theorem recsAt_own {w : World} {B : Nat} {v : Value} {rs : List Rec} (hle : ∀ r ∈ rs, r.2.length ≤ 16777216) (hown : w.ownsRow B 93 2 v rs.length (recCells rs)) : RecsAt rs v w := by
  have hc := fun g0 hg0 => hown.cells (g := g0) hg0
  rcases hown.2 with ⟨h, h'⟩ | ⟨g0, cap0, cur, h, _, hh, _⟩
  · exact ⟨none, 0, by rw [h, h'], fun hpos => by omega⟩
  · refine ⟨_, _, h, fun _ => ⟨g0, rfl, ⟨cur, hh⟩, fun j hj => ?_⟩⟩
    have hc := hc g0 (by rw [h]; rfl)
    have hg := recCells_get hj
    rw [Nat.mul_comm] at hg
    exact ⟨⟨rs[j].1.toArray⟩, ⟨rs[j].2.toArray⟩, by simp [bl], by simp [bl], by have := hle _ (List.getElem_mem hj); simpa [ByteArray.size] using this, by have := hc _ _ hg.1; rwa [add_zero_block] at this, by have := hc _ _ hg.2; rwa [add_zero_block] at this⟩

theorem lay_0 {t : ToldM} {x y : ByteArray} (h1 : bl x = kPath) : layOne t (bl x, bl y) = { t with path := some (bl y) } := by
  unfold layOne; simp only; rw [if_pos h1]
theorem lay_1 {t : ToldM} {x y : ByteArray} (h1 : bl x ≠ kPath) (h2 : bl x = kLink) : layOne t (bl x, bl y) = { t with link := some (bl y) } := by
  unfold layOne; simp only; rw [if_neg h1, if_pos h2]
theorem lay_2 {t : ToldM} {x y : ByteArray} (h1 : bl x ≠ kPath) (h2 : bl x ≠ kLink) (h3 : bl x = kSize) : layOne t (bl x, bl y) = { t with size := some (bl y) } := by
  unfold layOne; simp only; rw [if_neg h1, if_neg h2, if_pos h3]
theorem lay_3 {t : ToldM} {x y : ByteArray} (h1 : bl x ≠ kPath) (h2 : bl x ≠ kLink) (h3 : bl x ≠ kSize) (h4 : bl x = kTime) : layOne t (bl x, bl y) = { t with time := some (bl y) } := by
  unfold layOne; simp only; rw [if_neg h1, if_neg h2, if_neg h3, if_pos h4]
theorem lay_4 {t : ToldM} {x y : ByteArray} (h1 : bl x ≠ kPath) (h2 : bl x ≠ kLink) (h3 : bl x ≠ kSize) (h4 : bl x ≠ kTime) : layOne t (bl x, bl y) = t := by
  unfold layOne; simp only; rw [if_neg h1, if_neg h2, if_neg h3, if_neg h4]

set_option maxRecDepth 100000 in
set_option maxHeartbeats 2000000 in
theorem lay_any (rs : List Rec) (v : Value) (g off : Nat) (cs : Array Value) (t : ToldM) (w : World) (hn : rs.length ≤ 16777216) (hl : RecsAt rs v w) (hF : Four g off cs t w) (hoff : off + 3 < cs.size) :
    Calls Tryd.prog 63 #[.pointer (some ⟨g, off, none⟩), v] w fun e w' => e = .returned (.tuple #[]) ∧ Four g off cs (layM t rs) w' ∧ w.grownBy w' (some g) := by
  obtain ⟨ao, cap, rfl, hc⟩ := hl
  have HC := Lib.hid hc; clear hc
  have HO := Lib.hid hoff; clear hoff
  have H50 := Lib.hid (show ∃ cs', w.heap[g]? = some (.cells cs' 50 (0, 0)) from by obtain ⟨x0, x1, x2, x3, hb, _⟩ := hF.vals; exact ⟨_, hb⟩)
  go_enter Tryd.func63, Tryd.ntmps63
  go_wp2
  go_loopg [8] rs.length (fun gk i wr => ∃ k : Nat, gk = rs.length - k ∧ k ≤ rs.length ∧ i = .int .i64 k ∧ Four g off cs (layM t (rs.take k)) wr ∧ w.grownBy wr (some g))
  case atStart => exact ⟨0, rfl, Nat.zero_le _, rfl, by rw [List.take_zero]; exact hF, ⟨rfl, rfl, rfl, Nat.le_refl _, fun _ _ _ => rfl⟩⟩
  case round =>
    clear hF
    obtain ⟨k, hg, hk, rfl, hF, hgr⟩ := hrel
    have HG := Lib.hid hg; clear hg
    by_cases hlt : k < rs.length
    · obtain ⟨g0, hao, ⟨cs0, hb0⟩, hcell⟩ := HC.out (by omega)
      obtain ⟨x, y, hx, hy, hys, c0, c1⟩ := hcell k hlt
      have HS := Lib.hid (layM_step t hlt)
      have HXY := Lib.hid (show rs[k] = (bl x, bl y) by rw [hx, hy])
      have hne : g0 ≠ g := by
        intro e
        obtain ⟨cs', hb⟩ := H50.out
        rw [e, hb] at hb0
        injection hb0 with hb0
        injection hb0 with _ ht _
        cases ht
      have c0' := hgr.cell c0 (fun e => hne (by injection e))
      have c1' := hgr.cell c1 (fun e => hne (by injection e))
      subst hao
      have hgl := hF.lt
      clear c0 c1 hcell hx hy hb0
      have HS' := Lib.hid (HS.out.trans (congrArg _ HXY.out))
      clear HS HXY
      by_cases h1 : bl x = kPath
      · have hb1 : (x.toList == [112, 97, 116, 104]) = true := tl_yes h1
        have HT := Lib.hid (HS'.out.trans (lay_0 h1))
        have hF2 := four_tell (i := 0) (x := x) (y := y) hF hgl hys (.inl ⟨rfl, rfl⟩)
        have hgr2 := grown_trans (grown_trans hgr (World.grownBy_alloc wr (.cells #[.string x, .string y] 93) _)) (grown_set _ g (off + 0) (.slice (some ⟨wr.heap.size, 1, none⟩) 1 1))
        rw [World.setCell_alloc_past _ _ _ _ hgl] at hF2 hgr2
        obtain ⟨old, hold⟩ := hF.cell HO.out 0 (by omega)
        have hfr := hF.free
        rw [Nat.add_zero] at hold hF2 hgr2
        have HF2 := Lib.hid hF2
        have HGR2 := Lib.hid hgr2
        clear hF hgr hF2 hgr2 h1
        go_wp2
        go_roundg (rs.length - (k + 1))
        case rel => exact ⟨k + 1, rfl, by omega, by go_num, HT.out ▸ HF2.out, HGR2.out⟩
        case measure => have := HG.out; omega
      have hb1 : (x.toList == [112, 97, 116, 104]) = false := tl_no h1
      by_cases h2 : bl x = kLink
      · have hb2 : (x.toList == [108, 105, 110, 107, 112, 97, 116, 104]) = true := tl_yes h2
        have HT := Lib.hid (HS'.out.trans (lay_1 h1 h2))
        have hF2 := four_tell (i := 1) (x := x) (y := y) hF hgl hys (.inr (.inl ⟨rfl, rfl⟩))
        have hgr2 := grown_trans (grown_trans hgr (World.grownBy_alloc wr (.cells #[.string x, .string y] 93) _)) (grown_set _ g (off + 1) (.slice (some ⟨wr.heap.size, 1, none⟩) 1 1))
        rw [World.setCell_alloc_past _ _ _ _ hgl] at hF2 hgr2
        obtain ⟨old, hold⟩ := hF.cell HO.out 1 (by omega)
        have hfr := hF.free
        have HF2 := Lib.hid hF2
        have HGR2 := Lib.hid hgr2
        clear hF hgr hF2 hgr2 h1 h2
        go_wp2
        go_roundg (rs.length - (k + 1))
        case rel => exact ⟨k + 1, rfl, by omega, by go_num, HT.out ▸ HF2.out, HGR2.out⟩
        case measure => have := HG.out; omega
      have hb2 : (x.toList == [108, 105, 110, 107, 112, 97, 116, 104]) = false := tl_no h2
      by_cases h3 : bl x = kSize
      · have hb3 : (x.toList == [115, 105, 122, 101]) = true := tl_yes h3
        have HT := Lib.hid (HS'.out.trans (lay_2 h1 h2 h3))
        have hF2 := four_tell (i := 2) (x := x) (y := y) hF hgl hys (.inr (.inr (.inl ⟨rfl, rfl⟩)))
        have hgr2 := grown_trans (grown_trans hgr (World.grownBy_alloc wr (.cells #[.string x, .string y] 93) _)) (grown_set _ g (off + 2) (.slice (some ⟨wr.heap.size, 1, none⟩) 1 1))
        rw [World.setCell_alloc_past _ _ _ _ hgl] at hF2 hgr2
        obtain ⟨old, hold⟩ := hF.cell HO.out 2 (by omega)
        have hfr := hF.free
        have HF2 := Lib.hid hF2
        have HGR2 := Lib.hid hgr2
        clear hF hgr hF2 hgr2 h1 h2 h3
        go_wp2
        go_roundg (rs.length - (k + 1))
        case rel => exact ⟨k + 1, rfl, by omega, by go_num, HT.out ▸ HF2.out, HGR2.out⟩
        case measure => have := HG.out; omega
      have hb3 : (x.toList == [115, 105, 122, 101]) = false := tl_no h3
      by_cases h4 : bl x = kTime
      · have hb4 : (x.toList == [109, 116, 105, 109, 101]) = true := tl_yes h4
        have HT := Lib.hid (HS'.out.trans (lay_3 h1 h2 h3 h4))
        have hF2 := four_tell (i := 3) (x := x) (y := y) hF hgl hys (.inr (.inr (.inr ⟨rfl, rfl⟩)))
        have hgr2 := grown_trans (grown_trans hgr (World.grownBy_alloc wr (.cells #[.string x, .string y] 93) _)) (grown_set _ g (off + 3) (.slice (some ⟨wr.heap.size, 1, none⟩) 1 1))
        rw [World.setCell_alloc_past _ _ _ _ hgl] at hF2 hgr2
        obtain ⟨old, hold⟩ := hF.cell HO.out 3 (by omega)
        have hfr := hF.free
        have HF2 := Lib.hid hF2
        have HGR2 := Lib.hid hgr2
        clear hF hgr hF2 hgr2 h1 h2 h3 h4
        go_wp2
        go_roundg (rs.length - (k + 1))
        case rel => exact ⟨k + 1, rfl, by omega, by go_num, HT.out ▸ HF2.out, HGR2.out⟩
        case measure => have := HG.out; omega
      have hb4 : (x.toList == [109, 116, 105, 109, 101]) = false := tl_no h4
      have HT := Lib.hid (HS'.out.trans (lay_4 h1 h2 h3 h4))
      have hF2 := four_quiet (o := .cells #[.string x, .string y] 93) hF hgl
      have hgr2 := grown_trans hgr (World.grownBy_alloc wr (.cells #[.string x, .string y] 93) _)
      have HF2 := Lib.hid hF2
      have HGR2 := Lib.hid hgr2
      clear hF hgr hF2 hgr2 h1 h2 h3 h4
      go_wp2
      go_roundg (rs.length - (k + 1))
      case rel => exact ⟨k + 1, rfl, by omega, by go_num, HT.out ▸ HF2.out, HGR2.out⟩
      case measure => have := HG.out; omega
    · have HR := Lib.hid (show rs.take k = rs from List.take_of_length_le (by omega))
      go_wp2
      go_end0
      exact ⟨rfl, HR.out ▸ hF, hgr⟩
end Tp
end Go.Proofs.YtiehjmjobcklmaaDoor
