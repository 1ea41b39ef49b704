/- Small laws on worlds, rows and appends, of any program. -/
import Derived.WalkKit
import Derived.Deep.Draws
namespace Go.Proofs.YtiehjmjobcklmaaDoor
open Go.RowKit
namespace Tp
theorem below_drewN {B : Nat} {a w : World} (h : Below B a w) (n : Nat) : Below B a (w.drewN n) := ⟨h.os, h.tape, h.output, h.size, h.block⟩
theorem own_drewN {w : World} {base : Nat} {e : TypeId} {size : Nat} {v : Value} {n : Nat} {xs : List Value} (h : w.ownsRow base e size v n xs) (k : Nat) : (w.drewN k).ownsRow base e size v n xs := h
theorem add_zero_block (g j : Nat) : (⟨g, 0, none⟩ : Addr).add j = ⟨g, j, none⟩ := by unfold Addr.add; split <;> simp_all
/-- the cells of a block that was just laid -/
theorem new_cells (W : World) (xs : List Value) (e : TypeId) (g : Nat) (hg : g = W.heap.size) : ∀ (j : Nat) (u : Value), xs[j]? = some u → (W.alloc (.cells xs.toArray e)).cell? ((⟨g, 0, none⟩ : Addr).add j) = some u := by
  intro j u h
  subst hg
  rw [add_zero_block, cell_of_row _ _ _ _ e (0, 0) (heap_alloc_new W _)]
  simpa using h
/-- behind an append to a row of the call's own -/
theorem below_push {B : Nat} {a W w' : World} {e : TypeId} {size : Nat} {v : Value} {n : Nat} {xs : List Value} {o : Obj} (hb : Below B a W) (hB : B ≤ W.heap.size) (hown : W.ownsRow B e size v n xs)
    (hg : (W.alloc o).grownBy w' v.ownBlock) : Below B a w' :=
  (hb.alloc hB o).grown hg (by simp; omega) fun k hk => (hown.lt k hk).1
/-- block b is a row of type t, none of it frozen -/
def HasT (w : World) (b : Nat) (t : TypeId) : Prop := ∃ cs, w.heap[b]? = some (.cells cs t (0, 0))
theorem HasT.lt {w : World} {b : Nat} {t : TypeId} (h : HasT w b t) : b < w.heap.size := by obtain ⟨cs, h⟩ := h; exact (Array.getElem?_eq_some_iff.1 h).1
theorem HasT.new (w : World) (cs : Array Value) (t : TypeId) : HasT (w.alloc (.cells cs t)) w.heap.size t := ⟨cs, heap_alloc_new _ _⟩
theorem HasT.alloc {w : World} {b : Nat} {t : TypeId} (h : HasT w b t) (o : Obj) : HasT (w.alloc o) b t := by
  have hl := h.lt
  obtain ⟨cs, h⟩ := h; exact ⟨cs, (Below.heap_alloc w o b hl).trans h⟩
theorem HasT.drewN {w : World} {b : Nat} {t : TypeId} (h : HasT w b t) (n : Nat) : HasT (w.drewN n) b t := h
theorem HasT.drew {w : World} {b : Nat} {t : TypeId} (h : HasT w b t) : HasT w.drew b t := h
theorem HasT.set {w : World} {b : Nat} {t : TypeId} (h : HasT w b t) (g i : Nat) (v : Value) : HasT (w.setCell ⟨g, i, none⟩ v) b t := by
  obtain ⟨cs, h⟩ := h
  by_cases e : b = g
  · subst e; exact ⟨cs.setIfInBounds i v, by simp [World.setCell, Array.getElem?_modify, h]⟩
  · exact ⟨cs, (Below.heap_setCell _ _ _ _ e).trans h⟩
theorem HasT.grown {w w' : World} {b : Nat} {t : TypeId} {row : Option Nat} (h : HasT w b t) (hg : w.grownBy w' row) (hne : some b ≠ row) : HasT w' b t := by
  have hl := h.lt
  obtain ⟨cs, h⟩ := h; exact ⟨cs, (hg.block b hl hne).trans h⟩
theorem HasT.below {w w' : World} {b : Nat} {t : TypeId} {B : Nat} (h : HasT w b t) (hg : Below B w w') (hne : b < B) : HasT w' b t := by
  obtain ⟨cs, h⟩ := h; exact ⟨cs, (hg.block b hne).trans h⟩
end Tp
end Go.Proofs.YtiehjmjobcklmaaDoor
